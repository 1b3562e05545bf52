/- Part 47: walks by contracts, and plain laws. -/
import Derived.Test.YtlgmojhmmbhgfaaGreatDoorVg46
set_option linter.unusedVariables false
set_option linter.unusedSimpArgs false
set_option linter.unusedSectionVars false
set_option maxRecDepth 100000
set_option maxHeartbeats 4000000
namespace Go.Proofs.YtlgmojhmmbhgfaaGreatDoor
section
open Go.RowKit
section
variable {P:Program} {ops:Array Oper} {hp:List HObj} {fr:List Dat} {dst:Option Tmp} {ty:TypeId} {ps:String} {af:Array Edge} {g:Option (Nat × Bool)} {T1 T2:TypeId} {b k:Nat} {ds:List Dat}
theorem ZEH {x:Operand} {l:Cx} (T':TyI P T1 1 true) (hx:OpD fr x (dX (.pointer (some ⟨b,k,none⟩)))) (hm:Zp b T2 ds∈hp) (hk:ds[k]?=some (dS Zc l)) :
  SY P ops hp ⟨dst,.load T1 x,ty,ps,af,g⟩ fr (dS Cpx l):=ZAO fun {P0 B w0 w a} hh ho=>by
 have h1:a.eval x = .pointer (some ⟨b,k,none⟩):=hx.get (by simp [Op.operands]) ho
 obtain ⟨c,q1,q2,q3⟩:=ZLr (hh.ok _ hm) hk
 have hc:Cells (fun _=>True) w b k 1 true (.agg #[c]):=by
  refine ⟨trivial,[c],rfl,by decide,by simp [q2],fun i c' hc=>?_,rfl⟩
  have hi:i=0:=by
   have:=(List.getElem?_eq_some_iff.1 hc).1
   simp at this;exact this
  subst hi
  cases hc
  exact q1
 refine ⟨.agg #[c],w,?_,Ext.refl _,c,rfl,q2,q3⟩
 unfold execOp
 simp only [h1,Sem.run_bind,ZA3 T' hc,Result.andThen_ok,Sem.run_pure]
end
def ZG9 (V:List Vx) (C C':Cx) (j:Nat):Cx:=(C'.take j).map (unR V C)++C'.drop j
theorem ZLV {V:List Vx} {C C':Cx} {j:Nat} (h:j≤C'.length):(ZG9 V C C' j).length=C'.length:=by unfold ZG9;simp;omega
theorem ZOT {V:List Vx} {C C':Cx} {j:Nat} (h:j<C'.length) (h':j<(ZG9 V C C' j).length):(ZG9 V C C' j)[j]=C'[j]:=by
 have e:(ZG9 V C C' j)[j]?=some C'[j]:=by
  unfold ZG9
  rw [List.getElem?_append_right (by simp;omega)]
  simp [Nat.min_eq_left (Nat.le_of_lt h),h]
 exact (List.getElem?_eq_some_iff.1 e).2
theorem ZLW {V:List Vx} {C C':Cx} {j:Nat} (h:j<C'.length):(ZG9 V C C' j).set j (unR V C C'[j])=ZG9 V C C' (j+1):=by
 unfold ZG9
 have hd:C'.drop j=C'[j]::C'.drop (j+1):=List.drop_eq_getElem_cons h
 have hl:((C'.take j).map (unR V C)).length=j:=by simp;omega
 rw [List.set_append_right _ _ (by omega),hl,Nat.sub_self,hd,ZP h,List.map_append,List.append_assoc]
 rfl
theorem ZLU {V:List Vx} {C C':Cx} {j:Nat} (h:C'.length≤j):ZG9 V C C' j=C'.map (unR V C):=by
 unfold ZG9
 rw [List.take_of_length_le h,List.drop_of_length_le h,List.append_nil]

set_option maxHeartbeats 16000000 in
theorem ZGM (l:Cx) (k:Nat) (h0:ZBH l=0) (hk:k≤6) (hl:l.length≤100) (hp60:(ZCZ l).length≤60) (hI:∀ i,i<k->(∃ n,OkI n (itR l i))/\ZCn (itR l i).1=0/\(itR l i).2.1.length≤60/\(ZDR (Zr (itR l i).1) (itR l i).1).2.length≤100000) :
  Fn Tryz.prog 13 [dS Cpx l,dI (k:Int)] (dT [dS ZCb (itR l k),dI 0]):=by
 have c1:=ZD2 l
 rw [h0] at c1
 have cI:=ZG5 l (fun s hs=>(ZO.1 ((ZAH.1 h0).2.2.1 s hs)).2.1) hl hp60
 refine ZAB ZAd Tryz.func13 rfl rfl ?_
 simp only [Tryz.ntmps13,List.length_cons,List.length_nil,Nat.reduceAdd,Nat.reduceSub,List.replicate_succ,List.replicate_zero,List.cons_append,List.nil_append]
 (repeat' (first|((first|apply WL.opN|apply WD.opN);exact yF;dsimp only [ZB,z0,z1])|refine WL.nil ?_|refine ZA fun Kx hK=>?_|(refine hK _ _ ?_;clear hK)|refine WC.region ?_ |  (refine WL.alloc (dst:=some 4) ZCH (Zj rfl rfl rfl) fun b4=>?_;dsimp only [ZB,z0,z1]) |  (refine ZAZ (dst:=some 7) (zs:=[.slice none 0 0,.slice none 0 0,.slice none 0 0]) ZCH (by decide) (by simp [Value.oneCell']) fun b7=>?_;dsimp only [ZB,z0,z1,List.map_cons,List.map_nil]) |  (refine ZAG ZAd (OpD.t rfl) (OpD.tle rfl ZC7) rfl rfl ?_;dsimp only [ZB])|((first|apply ZJ|apply WD.op);(focus (first|exact wN|(apply ZF;(exact wY);((first|(exact SY.box (OpD.t rfl) Zt)|(apply SY.call (c1) Tryz.call30;(exact aD))|(apply SY.call (cI) Tryz.call45;(exact aD))|((first|apply SY.move|apply SY.assign|apply SY.lss|apply SY.gtr|apply SY.neq) <;> (exact oD))|(apply ZAS;(exact oD);(with_reducible rfl);(exact oD))|fail);all_goals infer_instance))));dsimp only [ZB,z0,z1])|((first|refine Za rfl rfl rfl (fun h=>?_) (fun h=>?_)|refine ZZ rfl rfl rfl (fun h=>?_) (fun h=>?_)|refine ZT rfl rfl rfl (fun h=>?_) (fun h=>?_)|refine ZAE rfl rfl rfl (fun h=>?_) (fun h=>?_)|refine ZAD rfl rfl rfl (fun h=>?_) (fun h=>?_)|refine Zu rfl rfl rfl (fun h=>?_) (fun h=>?_)) <;> (first|(exfalso;first|omega|contradiction)|(dsimp only [z0,z1])))|(apply ZC;(exact oD);all_goals (intro h;try exact xD))|(apply ZL;(exact oD);all_goals (intro h;try exact xD))|refine WC.skip ?_|refine WC.block ?_))
 all_goals try (exfalso;first|contradiction|omega)
 (refine WC.loopU (X:=Nat) (fun i=>[(8,dI (i:Int)),(5,dA),(9,dA),(10,dA),(11,dA),(27,dA),(28,dA),(29,dA),(30,dA),(31,dA),(32,dA),(33,dA),(34,dA),(35,dA),(36,dA),(37,dA),(38,dA),(39,dA),(40,dA),(41,dA),(42,dA),(43,dA),(44,dA),(45,dA),(46,dA),(47,dA),(48,dA),(49,dA),(50,dA),(51,dA),(52,dA),(53,dA),(54,dA),(55,dA),(56,dA),(57,dA),(58,dA),(59,dA),(60,dA)]) (fun i=>(Zp b7 30 [dS Zc (itR l i).1,dS ZE (itR l i).2.1,dS Zc (itR l i).2.2]::[ZQ b4 30 3 true (dX (.agg #[.slice none 0 0,.slice none 0 0,.slice none 0 0]))])) (fun i=>k-i) (fun i=>i≤k) 0 ?start ?frame0 ?objs0 ?round)
 case start=>exact Nat.zero_le _
 case frame0=>((try dsimp only [ZK,z0,z1]);repeat (first|exact LeF.nil|refine ZD (k:=?_)))
 case objs0=>rfl
 case round =>
  rintro i i1
  dsimp only [ZK,z0,z1]
  by_cases hi:i<k
  ·obtain ⟨⟨n1,o1⟩,o2,o3,o4⟩:=hI i hi
   have hnx:itR l (i+1)=ZHy (itR l i):=rfl
   have hlen:=o1.len
   have hcl:∀ c∈(itR l i).2.2,c.length≤8:=fun c hc=>by have:=(o1.cars c hc).2;omega
   have cW:=ZJh (itR l i).1 o1.good.1 o1.good.2.2.1 o2
   unfold ZHy at hnx
   generalize itR l i=d at *
   have hC:(ZDR (Zr d.1) d.1).2.length=((ZDR (Zr d.1) d.1).2.map (·.2)).length:=(List.length_map ..).symm
   generalize (ZDR (Zr d.1) d.1).2.map (·.2)=C' at *
   generalize (ZDR (Zr d.1) d.1).2.map (·.1)=V' at *
   generalize (ZDR (Zr d.1) d.1).1=F' at *
   rw [hC] at o4
   clear hC
   obtain ⟨F,V,C⟩:=d
   simp only at *
   (repeat' (first|((first|apply WL.opN|apply WD.opN);exact yF;dsimp only [ZB,z0,z1])|refine WL.nil ?_|refine ZA fun Kx hK=>?_|(refine hK _ _ ?_;clear hK)|refine WC.region ?_ |  (refine Z8 (hp1:=[]) (caps:=[]) cW Tryz.call31 OpD.f (ArgsD.cons (OpD.t rfl) ArgsD.nil) ?_;rintro d' hp2 ⟨vC,rfl,rfl⟩;dsimp only [ZB,z0,z1,List.cons_append,List.nil_append]) |  (refine ZAZ (dst:=some 9) (zs:=[.slice none 0 0,.slice none 0 0,.slice none 0 0]) ZCH (by decide) (by simp [Value.oneCell']) fun b9=>?_;dsimp only [ZB,z0,z1,List.map_cons,List.map_nil]) |  (refine ZAG ZAd (OpD.t rfl) (OpD.t rfl) rfl rfl (WL.perm (List.Perm.swap _ _ _) ?_);dsimp only [ZB])|((first|apply ZJ|apply WD.op);(focus (first|exact wN|(apply ZF;(exact wY);((first|(refine Ze ZAe (OpD.t rfl) (by decide))|(refine ZEH tyC (OpD.t rfl) (.head _) rfl)|((first|apply SY.move|apply SY.assign|apply SY.lss|apply SY.gtr|apply SY.neq) <;> (exact oD))|(apply SY.extract;(exact oD);rfl)|fail);all_goals infer_instance))));dsimp only [ZB,z0,z1])|(apply ZC;(exact oD);all_goals (intro h;try exact xD))|(apply ZL;(exact oD);all_goals (intro h;try exact xD))|refine WC.skip ?_|refine WC.block ?_))
   all_goals try (exfalso;first|contradiction|omega)
   (refine WC.loopU (X:=Nat) (fun j=>[(11,dI (j:Int)),(42,dA),(43,dA),(44,dA),(45,dA),(46,dA),(47,dA),(48,dA),(49,dA),(50,dA),(51,dA),(52,dA),(53,dA),(54,dA),(55,dA),(56,dA),(57,dA),(58,dA),(59,dA)]) (fun j=>(ZW vC 28 ZE (ZG9 V C C' j)::Zp b9 30 [dS Zc F',dS ZE V',dX vC]::Zp b7 30 [dS Zc F,dS ZE V,dS Zc C]::[ZQ b4 30 3 true (dX (.agg #[.slice none 0 0,.slice none 0 0,.slice none 0 0]))])) (fun j=>C'.length-j) (fun j=>j≤C'.length) 0 ?start ?frame0 ?objs0 ?round)
   case start=>exact Nat.zero_le _
   case frame0=>((try dsimp only [ZK,z0,z1]);repeat (first|exact LeF.nil|refine ZD (k:=?_)))
   case objs0=>rfl
   case round =>
    rintro j j1
    dsimp only [ZK,z0,z1]
    have hml:=ZLV (V:=V) (C:=C) j1
    by_cases hj:j<C'.length
    ·have hjm:j<(ZG9 V C C' j).length:=by omega
     have hat:=ZOT hj hjm
     have hset:=ZLW (V:=V) (C:=C) hj
     have cU:=ZPI F V C C'[j] hlen hcl o3
     generalize hm1:ZG9 V C C' (j+1)=m1 at *
     generalize ZG9 V C C' j=m0 at *
     ((repeat' (first |  (apply WC.drawTail 11;kernel_rfl;kernel_rfl;simp only [List.take_succ_cons,List.take_zero,List.drop_succ_cons,List.drop_zero])|((first|apply WL.opN|apply WD.opN);exact yF;dsimp only [ZB,z0,z1])|refine WL.nil ?_|refine WD.nil ?_|refine ZA fun Kx hK=>?_|(refine hK _ _ ?_;clear hK)|refine WC.region ?_ |  (refine ZEN (R:=ZE) (k:=j) ZCM (OpD.t rfl) (OpD.t rfl) ZAb hjm ?_;rw [hset];dsimp only [ZB,z0,z1])|((first|apply ZJ|apply WD.op);(focus (first|exact wN|(apply ZF;(exact wY);((first|(refine Ze ZAe (OpD.t rfl) (by decide))|(refine Zb ZCl (OpD.t rfl) (.tail _ (.head _)) rfl)|(exact ZHL (OpD.t rfl) (.head _) ZBx.unt)|(refine ZAr ZAd (OpD.t rfl) (.tail _ (.tail _ (.head _))) (by decide) rfl)|(refine ZGq (R:=ZE) (_gR:=inferInstance) ZBx (OpD.t rfl) (.head _) (OpD.t rfl) rfl hjm)|(refine ZC9 (R:=ZE) (_gR:=inferInstance) ZCM (OpD.t rfl) (.head _) hjm hat)|(apply SY.call cU Tryz.call46;exact ArgsD.cons (OpD.tle rfl ZFy) (ArgsD.cons (OpD.t rfl) ArgsD.nil))|((first|apply SY.move|apply SY.assign|apply SY.lss|apply SY.gtr|apply SY.neq) <;> (exact oD))|((first|apply SY.add) <;> first|exact oD|omega)|fail);all_goals infer_instance))));dsimp only [ZB,z0,z1])|(apply ZC;(exact oD);all_goals (intro h;try exact xD))|refine WC.skip ?_|refine WC.block ?_|refine ThenD.n ?_));all_goals (first|((repeat clear hK);(repeat clear Kx))))
     all_goals try (exfalso;first|contradiction|omega)
     (refine ⟨j+1 , ?_,by first|omega|(simp only;omega),by ((try simp only);  rw [hm1]),?_⟩;rotate_left;((try dsimp only [ZK,z0,z1]);repeat (first|exact LeF.nil|refine ZD (k:=?_)));(try dsimp only))
     omega
    ·have hjl:¬ j<(ZG9 V C C' j).length:=by omega
     rw [ZLU (show C'.length≤j by omega)] at hjl ⊢
     (repeat' (first|((first|apply WL.opN|apply WD.opN);exact yF;dsimp only [ZB,z0,z1])|refine WL.nil ?_|refine ZA fun Kx hK=>?_|(refine hK _ _ ?_;clear hK)|(refine Kont.skip ?_;clear hK)|refine WC.region ?_|((first|apply ZJ|apply WD.op);(focus (first|exact wN|(apply ZF;(exact wY);((first|(refine Ze ZAe (OpD.t rfl) (by decide))|(refine Zb ZCl (OpD.t rfl) (.tail _ (.head _)) rfl)|(exact ZHL (OpD.t rfl) (.head _) ZBx.unt)|((first|apply SY.move|apply SY.assign|apply SY.lss|apply SY.gtr|apply SY.neq) <;> (exact oD))|fail);all_goals infer_instance))));dsimp only [ZB,z0,z1])|(apply ZC;(exact oD);all_goals (intro h;try exact xD))|refine WC.exit ?_))
     all_goals try (exfalso;first|contradiction|omega)
     refine WL.perm (List.Perm.swap _ _ _) (ZKr (k:=2) rfl ?_)
     dsimp only [z0,z1]
     ((repeat' (first|((first|apply WL.opN|apply WD.opN);exact yF;dsimp only [ZB,z0,z1])|refine WL.nil ?_|(refine hK _ _ ?_;clear hK)|refine WC.region ?_ |  (refine WL.perm (List.Perm.swap _ _ _) (ZAG ZAd (OpD.t rfl) (OpD.t rfl) rfl rfl (WL.perm (List.Perm.swap _ _ _) (WL.drop ?_)));dsimp only [ZB])|((first|apply ZJ|apply WD.op);(focus (first|exact wN|(apply ZF;(exact wY);((first|(refine ZAr ZAd (OpD.t rfl) (.head _) (by decide) rfl)|((first|apply SY.add) <;> first|exact oD|omega)|fail);all_goals infer_instance))));dsimp only [ZB,z0,z1])|refine ThenD.n ?_));all_goals (first|((repeat clear hK);(repeat clear Kx))))
     all_goals try (exfalso;first|contradiction|omega)
     (refine ⟨i+1 , ?_,by first|omega|(simp only;omega),by ((try simp only);  rw [hnx]),?_⟩;rotate_left;((try dsimp only [ZK,z0,z1]);repeat (first|exact LeF.nil|refine ZD (k:=?_)));(try dsimp only))
     omega
  ·have hie:i=k:=by omega
   subst hie
   ((repeat' (first|((first|apply WL.opN|apply WD.opN);exact yF;dsimp only [ZB,z0,z1])|refine WL.nil ?_|refine ZA fun Kx hK=>?_|(refine hK _ _ ?_;clear hK)|(refine Kont.skip ?_;clear hK)|refine WC.region ?_ |  (refine ZCd (d:=dS ZCb (itR l i)) ZAd rfl (OpD.tle rfl ZFy) Zn ?_;dsimp only [ZB,z0,z1])|((first|apply ZJ|apply WD.op);(focus (first|exact wN|(apply ZF;(exact wY);((first|(refine ZAr ZAd (OpD.t rfl) (.head _) (by decide) rfl)|((first|apply SY.move|apply SY.assign|apply SY.lss|apply SY.gtr|apply SY.neq) <;> (exact oD))|fail);all_goals infer_instance))));dsimp only [ZB,z0,z1])|(apply ZC;(exact oD);all_goals (intro h;try exact xD))|refine WC.ret ?_|refine WC.exit ?_));all_goals (first|((repeat clear hK);(repeat clear Kx))))
   all_goals try (exfalso;first|contradiction|omega)
   (refine ⟨trivial,⟨_,rfl,?_⟩,_,rfl,?_⟩ <;> exact fD)
set_option maxHeartbeats 4000000 in
theorem ZOC (l:Cx) (k:Nat) (h0:ZBH l=0) (hk:k≤6) (h1:1≤k) (hl:l.length≤100) (hp60:(ZCZ l).length≤60) (he:ZCn l≠0) :
  Fn Tryz.prog 13 [dS Cpx l,dI (k:Int)] (dT [dS ZCb ([],[],[]),dI (ZCn l)]):=by
 have c1:=ZD2 l
 rw [h0] at c1
 have cI:=ZG5 l (fun s hs=>(ZO.1 ((ZAH.1 h0).2.2.1 s hs)).2.1) hl hp60
 have cW:=ZLx l (ZAH.1 h0).1 he
 generalize hE:ZCn l=E at *
 refine ZAB ZAd Tryz.func13 rfl rfl ?_
 simp only [Tryz.ntmps13,List.length_cons,List.length_nil,Nat.reduceAdd,Nat.reduceSub,List.replicate_succ,List.replicate_zero,List.cons_append,List.nil_append]
 (repeat' (first|((first|apply WL.opN|apply WD.opN);exact yF;dsimp only [ZB,z0,z1])|refine WL.nil ?_|refine ZA fun Kx hK=>?_|(refine hK _ _ ?_;clear hK)|refine WC.region ?_ |  (refine WL.alloc (dst:=some 4) ZCH (Zj rfl rfl rfl) fun b4=>?_;dsimp only [ZB,z0,z1]) |  (refine ZAZ (dst:=some 7) (zs:=[.slice none 0 0,.slice none 0 0,.slice none 0 0]) ZCH (by decide) (by simp [Value.oneCell']) fun b7=>?_;dsimp only [ZB,z0,z1,List.map_cons,List.map_nil]) |  (refine ZAG ZAd (OpD.t rfl) (OpD.tle rfl ZC7) rfl rfl ?_;dsimp only [ZB])|((first|apply ZJ|apply WD.op);(focus (first|exact wN|(apply ZF;(exact wY);((first|(exact SY.box (OpD.t rfl) Zt)|(apply SY.call (c1) Tryz.call30;(exact aD))|(apply SY.call (cI) Tryz.call45;(exact aD))|((first|apply SY.move|apply SY.assign|apply SY.lss|apply SY.gtr|apply SY.neq) <;> (exact oD))|(apply ZAS;(exact oD);(with_reducible rfl);(exact oD))|fail);all_goals infer_instance))));dsimp only [ZB,z0,z1])|((first|refine Za rfl rfl rfl (fun h=>?_) (fun h=>?_)|refine ZZ rfl rfl rfl (fun h=>?_) (fun h=>?_)|refine ZT rfl rfl rfl (fun h=>?_) (fun h=>?_)|refine ZAE rfl rfl rfl (fun h=>?_) (fun h=>?_)|refine ZAD rfl rfl rfl (fun h=>?_) (fun h=>?_)|refine Zu rfl rfl rfl (fun h=>?_) (fun h=>?_)) <;> (first|(exfalso;first|omega|contradiction)|(dsimp only [z0,z1])))|(apply ZC;(exact oD);all_goals (intro h;try exact xD))|(apply ZL;(exact oD);all_goals (intro h;try exact xD))|refine WC.skip ?_|refine WC.block ?_))
 all_goals try (exfalso;first|contradiction|omega)
 (refine WC.loopU (X:=Nat) (fun i=>[(8,dI (i:Int)),(5,dA),(9,dA),(10,dA),(11,dA),(27,dA),(28,dA),(29,dA),(30,dA),(31,dA),(32,dA),(33,dA),(34,dA),(35,dA),(36,dA),(37,dA),(38,dA),(39,dA),(40,dA),(41,dA),(42,dA),(43,dA),(44,dA),(45,dA),(46,dA),(47,dA),(48,dA),(49,dA),(50,dA),(51,dA),(52,dA),(53,dA),(54,dA),(55,dA),(56,dA),(57,dA),(58,dA),(59,dA),(60,dA)]) (fun i=>(Zp b7 30 [dS Zc l,dS ZE (ZCZ l),dS Zc ((ZCZ l).map fun v=>[v])]::[ZQ b4 30 3 true (dX (.agg #[.slice none 0 0,.slice none 0 0,.slice none 0 0]))])) (fun i=>k-i) (fun i=>i=0) 0 ?start ?frame0 ?objs0 ?round)
 case start=>rfl
 case frame0=>((try dsimp only [ZK,z0,z1]);repeat (first|exact LeF.nil|refine ZD (k:=?_)))
 case objs0=>rfl
 case round =>
  rintro i i1
  subst i1
  dsimp only [ZK,z0,z1]
  ((repeat' (first|((first|apply WL.opN|apply WD.opN);exact yF;dsimp only [ZB,z0,z1])|refine WL.nil ?_|refine ZA fun Kx hK=>?_|(refine hK _ _ ?_;clear hK)|refine WC.region ?_ |  (refine ZAZ (dst:=some 9) (zs:=[.slice none 0 0,.slice none 0 0,.slice none 0 0]) ZCH (by decide) (by simp [Value.oneCell']) fun b9=>?_;dsimp only [ZB,z0,z1,List.map_cons,List.map_nil]) |  (refine ZAG ZAd (OpD.t rfl) (OpD.tle rfl ZC7) rfl rfl (WL.drop ?_);dsimp only [ZB]) |  (refine WL.perm (List.Perm.swap _ _ _) (ZN ZAd rfl (OpD.t rfl) Zn ?_);dsimp only [ZB,z0,z1])|((first|apply ZJ|apply WD.op);(focus (first|exact wN|(apply ZF;(exact wY);((first|(refine Ze ZAe (OpD.t rfl) (by decide))|(refine ZEH tyC (OpD.t rfl) (.head _) rfl)|(apply SY.call (cW) Tryz.call31;(exact aD))|(exact ZA9)|((first|apply SY.move|apply SY.assign|apply SY.lss|apply SY.gtr|apply SY.neq) <;> (exact oD))|(apply SY.extract;(exact oD);rfl)|fail);all_goals infer_instance))));dsimp only [ZB,z0,z1])|(apply ZC;(exact oD);all_goals (intro h;try exact xD))|(apply ZL;(exact oD);all_goals (intro h;try exact xD))|refine WC.skip ?_|refine WC.ret ?_|refine WC.block ?_|refine ThenD.r ?_|refine InBlockD.r ?_));all_goals (first|((repeat clear hK);(repeat clear Kx))))
  all_goals first|(refine ⟨trivial,⟨_,rfl,?_⟩,_,rfl,?_⟩ <;> exact fD)|(exfalso;first|contradiction|omega)
end
end Go.Proofs.YtlgmojhmmbhgfaaGreatDoor
