/- Part 49: walks by contracts, and plain laws. -/
import Derived.Test.YtlgmojhmmbhgfaaGreatDoorVg48
set_option linter.unusedVariables false
set_option linter.unusedSimpArgs false
set_option linter.unusedSectionVars false
set_option maxRecDepth 100000
set_option maxHeartbeats 4000000
namespace Go.Proofs.YtlgmojhmmbhgfaaGreatDoor
section
open Go.RowKit
theorem FinD.then {hp:List HObj} {d d' d'':Dat} (h:FinD hp d d') (k:d'.le d''):FinD hp d d'':=⟨fun hh hd=>k _ _ _ (h.out hh hd)⟩
theorem FinD.tup2 {hp:List HObj} {a b a' b':Dat} (h:FinD hp a a') (k:FinD hp b b'):FinD hp (dT [a,b]) (dT [a',b']):=⟨fun hh ⟨vs,h1,h2,h3⟩=>⟨vs,h1,h2,fun i d u hd hu=>by
 match i,hd with
 | 0,hd=>cases hd;exact h.out hh (h3 0 _ u rfl hu)
 | 1,hd=>cases hd;exact k.out hh (h3 1 _ u rfl hu)⟩⟩
theorem FinD.agg3 {hp:List HObj} {a b c a' b' c':Dat} (h:FinD hp a a') (k:FinD hp b b') (l:FinD hp c c'):FinD hp (ZEC [a,b,c]) (ZEC [a',b',c']):=⟨fun hh ⟨cs,h1,h2,h3,h4⟩=>⟨cs,h1,h2,h3,fun i v d hv hd=>by
 match i,hd with
 | 0,hd=>cases hd;exact h.out hh (h4 0 v _ hv rfl)
 | 1,hd=>cases hd;exact k.out hh (h4 1 v _ hv rfl)
 | 2,hd=>cases hd;exact l.out hh (h4 2 v _ hv rfl)⟩⟩
theorem ZFn {F:Cx} {V:List Vx} {C:Cx} {v:Value} {e:TypeId} {n:Int}:FinD [ZW v e ZE C] (dT [ZEC [dS Zc F,dS ZE V,dX v],dI n]) (dT [dS ZCb (F,V,C),dI n]) :=
 FinD.tup2 ((FinD.agg3 (ZEF rfl) (ZEF rfl) (FinD.row (.head _))).then ZFy) (FinD.i rfl)
theorem ZPP (l:Cx) (hl:l.length≤4096) (hg:∀ s∈l,ZAJ s=0) (he:ZCn l=0):Fn Tryz.prog 31 [dS Cpx l] (dT [dS ZCb ((ZDR (Zr l) l).1,(ZDR (Zr l) l).2.map (·.1),(ZDR (Zr l) l).2.map (·.2)),dI 0]):=ZKa (ZJh l hl hg he) fun _ _ ⟨_,h1,h2⟩=>by subst h1;subst h2;exact ZFn
theorem ZUQ (l:Cx) (hl:l.length≤4096) (hg:∀ s∈l,ZAJ s=0):Fn Tryz.prog 31 [dS Cpx l] (dT [dS ZCb (ZRP l).1,dI (ZRP l).2]):=by
 by_cases he:ZCn l=0
 ·rw [show ZRP l=(((ZDR (Zr l) l).1,(ZDR (Zr l) l).2.map (·.1),(ZDR (Zr l) l).2.map (·.2)),0) from if_neg (by omega)]
  exact ZPP l hl hg he
 ·rw [show ZRP l=(([],[],[]),ZCn l) from if_pos he]
  exact ZLx l hl he

theorem ZIs (l:Cx):Fn Tryz.prog 8 [dS Cpx l] (dT [dS ZCb (ZJl l).1,dI (ZJl l).2]):=by
 have c1:=ZD2 l
 by_cases h0:ZBH l=0
 ·have hG:=ZAH.1 h0
  have cW:=ZUQ l hG.1 hG.2.2.1
  rw [show ZJl l=ZRP l from if_neg (by omega)]
  rw [h0] at c1
  generalize ZRP l=p at *
  refine ZAB ZAd Tryz.func8 rfl rfl ?_
  simp only [Tryz.ntmps8,List.length_cons,List.length_nil,Nat.reduceAdd,Nat.reduceSub,List.replicate_succ,List.replicate_zero,List.cons_append,List.nil_append]
  ((repeat' (first|(apply WL.opN;exact yF;dsimp only [ZB,z0,z1])|refine WL.nil ?_|refine ZA fun Kx hK=>?_|(refine hK _ _ ?_;clear hK)|refine WC.region ?_ |  (refine WL.alloc (dst:=some 2) ZCH (Zj rfl rfl rfl) fun b2=>?_;dsimp only [ZB,z0,z1]) |  (refine ZN ZAd rfl (OpD.t rfl) Zn ?_;dsimp only [ZB,z0,z1])|(apply WL.opN;(focus ((first|(exact SY.box (OpD.t rfl) Zt)|(apply SY.call (c1) Tryz.call30;(exact aD))|(apply SY.call (cW) Tryz.call31;(exact aD))|((first|apply SY.move|apply SY.assign|apply SY.neq) <;> (exact oD))|(apply SY.extract;(exact oD);rfl)|fail);all_goals infer_instance));dsimp only [ZB,z0,z1])|(apply ZL;(exact oD);all_goals (intro h;try exact xD))|refine WC.skip ?_|refine WC.ret ?_));all_goals (first|((repeat clear hK);(repeat clear Kx))))
  all_goals try (exfalso;first|contradiction|omega)
  (refine ⟨trivial,⟨_,rfl,?_⟩,_,rfl,?_⟩ <;> exact fD)
 ·rw [show ZJl l=(([],[],[]),ZBH l) from if_pos h0]
  refine ZAB ZAd Tryz.func8 rfl rfl ?_
  simp only [Tryz.ntmps8,List.length_cons,List.length_nil,Nat.reduceAdd,Nat.reduceSub,List.replicate_succ,List.replicate_zero,List.cons_append,List.nil_append]
  ((repeat' (first|(apply WL.opN;exact yF;dsimp only [ZB,z0,z1])|refine WL.nil ?_|refine ZA fun Kx hK=>?_|(refine hK _ _ ?_;clear hK)|refine WC.region ?_ |  (refine WL.alloc (dst:=some 2) ZCH (Zj rfl rfl rfl) fun b2=>?_;dsimp only [ZB,z0,z1]) |  (refine ZN ZAd rfl (OpD.t rfl) Zn ?_;dsimp only [ZB,z0,z1])|(apply WL.opN;(focus ((first|(exact SY.box (OpD.t rfl) Zt)|(apply SY.call (c1) Tryz.call30;(exact aD))|(exact ZA9)|((first|apply SY.move|apply SY.assign|apply SY.neq) <;> (exact oD))|fail);all_goals infer_instance));dsimp only [ZB,z0,z1])|(apply ZL;(exact oD);all_goals (intro h;try exact xD))|refine WC.ret ?_|refine ThenD.r ?_));all_goals (first|((repeat clear hK);(repeat clear Kx))))
  all_goals first|(refine ⟨trivial,⟨_,rfl,?_⟩,_,rfl,?_⟩ <;> exact fD)|(exfalso;first|contradiction|omega)
end
section
open Go.RowKit
theorem ZIr (l:Cx):Fn Tryz.prog 7 [dS CpxL l] (dT [dS ZCb (ZJl l).1,dI (ZJl l).2]):=by
 by_cases h0:ZBH l=0
 ·by_cases hw:ZCn l=0
  ·have hG:=ZAH.1 h0
   obtain ⟨_,h5,_⟩:=ZEp hw
   have hR:ZJl l=((ZDl (ZB1 (Zr l) l),ZBE [] (ZB1 (Zr l) l).flatten,(ZBE [] (ZB1 (Zr l) l).flatten).map (ZFD (Zr l))),0):=by
    unfold ZJl ZRP
    rw [if_neg (by omega),if_neg (by omega),ZPO hG.2.2.1 h5 hG]
    rw [List.map_map,List.map_map]
    congr 1
    congr 1
    congr 1
    exact List.map_id' _
   rw [hR]
   exact ZKa (ZFF l h0 hw) fun d hp2 ⟨v,h1,h2⟩=>by subst h1;subst h2;exact ZFn
  ·have he:ZF4 l=ZCn l:=by rw [ZFb,if_neg (by omega)]
   have hR:ZJl l=(([],[],[]),ZF4 l):=by unfold ZJl ZRP;rw [if_neg (by omega),if_pos hw,he]
   rw [hR]
   exact ZHb l (by omega)
 ·have he:ZF4 l=ZBH l:=by rw [ZFb,if_pos h0]
  have hR:ZJl l=(([],[],[]),ZF4 l):=by unfold ZJl;rw [if_pos h0,he]
  rw [hR]
  exact ZHb l (by omega)
end
section
open Go.RowKit
theorem ZKM {a b c d:HObj} {l:List HObj}:(a::b::c::d::l).Perm (d::a::b::c::l):=(List.Perm.cons a ZAv).trans (List.Perm.swap _ _ _)

set_option maxHeartbeats 32000000 in
theorem ZP9 (l:Cx) (hl:l.length≤4) (h5:∀ s∈l,s.length≤5) (h0:ZBH l=0):CallC Tryz.prog 11 [dS Cpx l] [] (fun d hp2=>∃ vC,d=dT [ZEC [dS Zc (ZFZ (Zr l) l).1,dS ZE ((ZFZ (Zr l) l).2.map (·.1)),dX vC],dI 0]/\hp2=[ZW vC 28 ZE ((ZFZ (Zr l) l).2.map (·.2))]):=by
 have c1:=ZD2 l
 rw [h0] at c1
 have hsum:=ZLs h5
 have cFa:=ZLF l (by omega) (fun s hs=>by have:=h5 s hs;omega)
 have hwl:=fun i h=>ZK1 (Zr l) l h5 i h
 have hst:=fun i=>ZPF (l:=l) i
 have hwsn:=fun i (h:i<l.length)=>ZIm (fs:=Zr l) h
 generalize Zr l=fs at *
 refine ZBU ZAd Tryz.func11 rfl rfl fun tl0=>?_
 simp only [Tryz.ntmps11,List.length_cons,List.length_nil,Nat.reduceAdd,Nat.reduceSub,List.replicate_succ,List.replicate_zero,List.cons_append,List.nil_append]
 (repeat' (first|((first|apply WL.opN|apply WD.opN);exact yF;dsimp only [ZB,z0,z1])|refine WL.nil ?_|refine ZA fun Kx hK=>?_|(refine hK _ _ ?_;clear hK)|refine WC.region ?_ |  (refine WL.alloc (dst:=some 2) ZCH (Zj rfl rfl rfl) fun b2=>?_;dsimp only [ZB,z0,z1])|((first|apply WL.opN|apply WD.opN);(focus ((first|(exact SY.box (OpD.t rfl) Zt)|(apply SY.call (c1) Tryz.call30;(exact aD))|((first|apply SY.move|apply SY.assign|apply SY.lss|apply SY.gtr|apply SY.neq) <;> (exact oD))|fail);all_goals infer_instance));dsimp only [ZB,z0,z1])|(apply ZL;(exact oD);all_goals (intro h;try exact xD))|refine WC.skip ?_|refine WC.block ?_))
 all_goals try (exfalso;first|contradiction|omega)
 (refine WC.loopU (X:=Nat) (fun j=>[(6,dI (j:Int)),(5,dI ((ZKS (l.take j):Nat):Int)),(21,dA),(22,dA),(23,dA),(24,dA),(25,dA),(26,dA),(27,dA),(28,dA),(29,dA),(30,dA),(31,dA),(32,dA),(33,dA),(34,dA),(35,dA),(36,dA)]) (fun j=>(ZQ b2 30 3 true (dX (.agg #[.slice none 0 0,.slice none 0 0,.slice none 0 0]))::tl0)) (fun j=>l.length-j) (fun j=>j≤l.length) 0 ?start ?frame0 ?objs0 ?round)
 case start=>exact Nat.zero_le _
 case frame0=>((try dsimp only [ZK,z0,z1]);repeat (first|exact LeF.nil|refine ZD (k:=?_)))
 case objs0=>rfl
 case round =>
  rintro j j1
  dsimp only [ZK,z0,z1]
  have hsj:=hst j
  by_cases hj:j<l.length
  ·have h5j:=h5 _ (List.getElem_mem hj)
   have cf:=ZQ2 l[j].length (by omega)
   have hsn2:((ZKS (l.take j):Nat):Int)+((ZKA l[j].length:Nat):Int)=((ZKS (l.take (j+1)):Nat):Int):=by rw [ZJd hj];omega
   have hsj2:=hst (j+1)
   ((repeat' (first|((first|apply WL.opN|apply WD.opN);exact yF;dsimp only [ZB,z0,z1])|refine WL.nil ?_|refine ZA fun Kx hK=>?_|(refine hK _ _ ?_;clear hK)|refine WC.region ?_|((first|apply WL.opN|apply WD.opN);(focus ((first|(apply SY.call (cf) Tryz.call36;(exact aD))|((first|apply SY.move|apply SY.assign|apply SY.lss|apply SY.gtr|apply SY.neq) <;> (exact oD))|((first|apply SY.add) <;> first|exact oD|omega)|(apply SY.len;(exact oD);(exact nD);(exact uD))|(apply ZAw;(exact eD);(exact oD);(exact oD);exact kD)|(apply Zs ZCt;exact OpD.t rfl)|fail);all_goals infer_instance));dsimp only [ZB,z0,z1])|(apply ZC;(exact oD);all_goals (intro h;try exact xD))|refine WC.skip ?_|refine WC.block ?_|refine ThenD.n ?_));all_goals (first|((repeat clear hK);(repeat clear Kx))))
   all_goals try (exfalso;first|contradiction|omega)
   rw [hsn2]
   (refine ⟨j+1,?_,by first|omega|(simp only;omega),rfl,?_⟩;rotate_left;((try dsimp only [ZK,z0,z1]);repeat (first|exact LeF.nil|refine ZD (k:=?_)));(try dsimp only))
   omega
  ·rw [List.take_of_length_le (show l.length≤j by omega)]
   (repeat' (first|((first|apply WL.opN|apply WD.opN);exact yF;dsimp only [ZB,z0,z1])|refine WL.nil ?_|refine ZA fun Kx hK=>?_|(refine hK _ _ ?_;clear hK)|(refine Kont.skip ?_;clear hK)|refine WC.region ?_ |  (refine ZAZ (dst:=some 7) (zs:=[.slice none 0 0,.slice none 0 0,.slice none 0 0]) ZCH (by decide) (by simp [Value.oneCell']) fun b7=>?_;dsimp only [ZB,z0,z1,List.map_cons,List.map_nil])|((first|apply WL.opN|apply WD.opN);(focus ((first|(apply SY.call (cFa) Tryz.call37;(exact aD))|((first|apply SY.move|apply SY.assign|apply SY.lss|apply SY.gtr|apply SY.neq) <;> (exact oD))|(apply SY.len;(exact oD);(exact nD);(exact uD))|(apply Zs ZCt;exact OpD.t rfl)|fail);all_goals infer_instance));dsimp only [ZB,z0,z1])|(apply ZC;(exact oD);all_goals (intro h;try exact xD))|refine WC.skip ?_|refine WC.exit ?_|refine WC.block ?_))
   all_goals try (exfalso;first|contradiction|omega)
   refine ZKm (ds':=[dS Zc [],dS ZE [],dX (.slice none 0 0)]) rfl (fun k d d' hd hd'=>by
    match k,hd,hd' with
    | 0,hd,hd'=>cases hd;cases hd';exact ZI
    | 1,hd,hd'=>cases hd;cases hd';exact ZH (by decide)
    | 2,hd,hd'=>cases hd;cases hd';exact Dat.le_refl _) ?_
   refine ZAy 28 ZE (WC.perm (List.Perm.swap _ _ _) ?_)
   (refine WC.loopU (X:=Nat × Value) (fun x=>[(9,dI (x.1:Int)),(10,dA),(11,dA),(12,dA),(13,dA),(14,dA),(42,dA),(43,dA),(44,dA),(45,dA),(46,dA),(47,dA),(48,dA),(49,dA),(50,dA),(51,dA),(52,dA),(53,dA),(54,dA),(55,dA),(56,dA),(57,dA),(58,dA),(59,dA),(60,dA),(61,dA),(62,dA),(63,dA),(64,dA),(65,dA),(66,dA),(67,dA),(68,dA),(69,dA),(70,dA),(71,dA),(72,dA),(73,dA),(74,dA),(75,dA),(76,dA),(77,dA),(78,dA),(79,dA),(80,dA),(81,dA),(82,dA),(83,dA),(84,dA),(85,dA),(86,dA),(87,dA),(88,dA),(89,dA),(90,dA),(91,dA),(92,dA),(93,dA),(94,dA),(95,dA),(96,dA),(97,dA),(98,dA),(99,dA),(100,dA),(101,dA)]) (fun x=>ZMU b2 b7 (ZFZ fs (l.take x.1)).1 (ZFZ fs (l.take x.1)).2 x.2 tl0) (fun x=>l.length-x.1) (fun x=>x.1≤l.length) (0,.slice none 0 0) ?start ?frame0 ?objs0 ?round)
   case start=>exact Nat.zero_le _
   case frame0=>((try dsimp only [ZK,z0,z1]);repeat (first|exact LeF.nil|refine ZD (k:=?_)))
   case objs0=>rfl
   case round =>
    rintro ⟨i,vC⟩ i1
    simp only at i1
    dsimp only [ZK,z0,z1]
    obtain ⟨w1,w2⟩:=hwl i i1
    have hws:=hwsn i
    generalize hA:ZFZ fs (l.take i)=A at *
    by_cases hi:i<l.length
    ·have hm:=h5 _ (List.getElem_mem hi)
     have hwi:=hws hi
     generalize hs:l[i]=s at *
     have cC:=ZGx s.length s [] hm hm (by simp)
     have hL1:=ZER s.length s [] hm
     have hL2:5 ^ s.length≤5 ^ 5:=Nat.pow_le_pow_right (by decide) hm
     have hLe:=ZHZ s.length s []
     have hal:=fun k=>ZIF ((chB fs s).take k) A fun t ht=>ZRe hm t (List.mem_of_mem_take ht)
     have hasn:=fun k h=>ZPB (A:=A) (F:=chB fs s) (k:=k) h
     have hfe:(chB fs s).length=(ZF3 s.length s []).length:=by unfold chB;rw [List.length_map]
     have hfg:∀ (k:Nat) (h:k<(chB fs s).length) (h':k<(ZF3 s.length s []).length),(chB fs s)[k]=ZCT fs (ZF3 s.length s [])[k]:=fun k h h'=>by simp [chB]
     generalize chB fs s=F at *
     generalize ZF3 s.length s []=L at *
     (repeat' (first|((first|apply WL.opN|apply WD.opN);exact yF;dsimp only [ZB,z0,z1])|refine WL.nil ?_|refine ZA fun Kx hK=>?_|(refine hK _ _ ?_;clear hK)|refine WC.region ?_|((first|apply WL.opN|apply WD.opN);(focus ((first|(refine ZBu (R:=ZE) (_gR:=inferInstance) ZBx hi hs (OpD.t rfl) (OpD.t rfl))|(apply SY.call cC Tryz.call38;exact ArgsD.cons (OpD.t rfl) (ArgsD.cons ⟨ZH (by decide)⟩ ArgsD.nil))|((first|apply SY.move|apply SY.assign|apply SY.lss|apply SY.gtr|apply SY.neq) <;> (exact oD))|(apply SY.len;(exact oD);(exact nD);(exact uD))|(apply Zs ZCt;exact OpD.t rfl)|fail);all_goals infer_instance));dsimp only [ZB,z0,z1])|(apply ZC;(exact oD);all_goals (intro h;try exact xD))|refine WC.skip ?_|refine WC.block ?_))
     all_goals try (exfalso;first|contradiction|omega)
     (refine WC.loopU (X:=Nat × Value) (fun x=>[(11,dI (x.1:Int)),(12,dA),(13,dA),(14,dA),(55,dA),(56,dA),(57,dA),(58,dA),(59,dA),(60,dA),(61,dA),(62,dA),(63,dA),(64,dA),(65,dA),(66,dA),(67,dA),(68,dA),(69,dA),(70,dA),(71,dA),(72,dA),(73,dA),(74,dA),(75,dA),(76,dA),(77,dA),(78,dA),(79,dA),(80,dA),(81,dA),(82,dA),(83,dA),(84,dA),(85,dA),(86,dA),(87,dA),(88,dA),(89,dA),(90,dA),(91,dA),(92,dA),(93,dA),(94,dA),(95,dA),(96,dA),(97,dA),(98,dA),(99,dA),(100,dA),(101,dA)]) (fun x=>ZMU b2 b7 (ZIE A (F.take x.1)).1 (ZIE A (F.take x.1)).2 x.2 tl0) (fun x=>F.length-x.1) (fun x=>x.1≤F.length) (0,vC) ?start ?frame0 ?objs0 ?round)
     case start=>exact Nat.zero_le _
     case frame0=>((try dsimp only [ZK,z0,z1]);repeat (first|exact LeF.nil|refine ZD (k:=?_)))
     case objs0=>rfl
     case round =>
      rintro ⟨k,vC2⟩ k1
      simp only at k1
      dsimp only [ZK,z0,z1]
      have hal1:=hal k
      rw [List.length_take] at hal1
      obtain ⟨a1,a2⟩:=hal1
      have hasn1:=hasn k
      have hwe:¬ k<F.length->ZIE A (F.take k)=ZIE A F:=fun h=>by rw [List.take_of_length_le (by omega)]
      generalize hB:ZIE A (F.take k)=B at *
      obtain ⟨X,d⟩:=B
      simp only at a1 a2
      have hFs:F.length=L.length:=hfe
      by_cases hk:k<F.length
      ·have hkL:k<L.length:=by omega
       have hge:=hfg k hk hkL
       have hs1:=hasn1 hk
       rw [hge] at hs1
       have hcl:=hLe _ (List.getElem_mem hkL)
       generalize hch:L[k]=ch at *
       have hpl:=ZEj fs ch
       have cU:=ZRv X ((ZCT fs ch).map (·.1)) (by omega)
       (repeat' (first|((first|apply WL.opN|apply WD.opN);exact yF;dsimp only [ZB,z0,z1])|refine WL.nil ?_|refine ZA fun Kx hK=>?_|(refine hK _ _ ?_;clear hK)|refine WC.region ?_|((first|apply WL.opN|apply WD.opN);(focus ((first|(apply SY.len;exact OpD.t rfl;exact ZDL;exact ZNn.unt)|((first|apply SY.move|apply SY.assign|apply SY.lss|apply SY.gtr|apply SY.neq) <;> (exact oD))|fail);all_goals infer_instance));dsimp only [ZB,z0,z1])|(apply ZC;(exact oD);all_goals (intro h;try exact xD))|refine WC.skip ?_|refine WC.block ?_))
       all_goals try (exfalso;first|contradiction|omega)
       refine ZAl 43 2 (by decide) RV ?_
       (refine WC.loopU (X:=Nat × Value × Value) (fun x=>[(12,dX x.2.1),(13,dI (x.1:Int)),(14,dA),(61,dA),(62,dA),(63,dA),(64,dA),(65,dA),(66,dA),(67,dA),(68,dA),(69,dA),(70,dA),(71,dA),(72,dA),(73,dA),(74,dA),(75,dA),(76,dA),(77,dA),(78,dA),(79,dA),(80,dA),(81,dA),(82,dA),(83,dA),(84,dA),(85,dA),(86,dA),(87,dA),(88,dA),(89,dA),(90,dA),(91,dA),(92,dA),(93,dA),(94,dA)]) (fun x=>(ZV x.2.1 43 2 RV (((ZCT fs ch).map (·.1)).take x.1)::ZMU b2 b7 X (ZLm d ((ZCT fs ch).take x.1)) x.2.2 tl0)) (fun x=>ch.length-x.1) (fun x=>x.1≤ch.length) (0,.slice none 0 0,vC2) ?start ?frame0 ?objs0 ?round)
       case start=>simp
       case frame0=>((try dsimp only [ZK,z0,z1]);repeat (first|exact LeF.nil|refine ZD (k:=?_)))
       case objs0=>rfl
       case round =>
        rintro ⟨q,u,vC3⟩ q1
        simp only at q1
        dsimp only [ZK,z0,z1]
        have hdl:=ZH6 ((ZCT fs ch).take q) d
        have hdl2:(ZLm d ((ZCT fs ch).take q)).length≤100000:=by
         rw [List.length_take] at hdl
         omega
        have hsn:=fun h=>ZOz (d:=d) (t:=ZCT fs ch) (j:=q) h
        have hend:¬ q<ch.length->ZLm d ((ZCT fs ch).take q)=ZLm d (ZCT fs ch):=fun h=>by rw [List.take_of_length_le (by omega)]
        generalize ZLm d ((ZCT fs ch).take q)=D at *
        clear hdl
        have hol:(((ZCT fs ch).map (·.1)).take q).length≤200002:=by rw [List.length_take];omega
        by_cases hq:q<ch.length
        ·have hqp:q<(ZCT fs ch).length:=by omega
         have hqm:q<((ZCT fs ch).map (·.1)).length:=by rw [List.length_map];exact hqp
         have hpg:=ZGS hqp hq
         have hs2:=hsn hqp
         rw [hpg] at hs2
         simp only at hs2
         have hmg:((ZCT fs ch).map (·.1))[q]=((q:Int),Z3 0 fs ch[q]):=by rw [List.getElem_map,hpg]
         have htk:=List.take_succ_eq_append_getElem hqm
         rw [hmg] at htk
         have cN:=ZDm fs ch[q]
         have cp:=ZOu X D ((q:Int),Z3 0 fs ch[q]) ch[q] hdl2 vC3
         ((repeat' (first |  (refine WC.drawM (fun hp'=>ZQ b14 43 2 true (dS RV ((q:Int),Z3 0 fs ch[q]))∈hp'/\Zp b7 30 [dS Zc X,dS ZE (D.map (·.1)),dX vC3]∈hp') 14 2 [(0,false),(1,false),(2,false),(4,false),(5,false),(6,false),(7,false),(8,false),(9,false),(10,false),(11,false),(12,false),(3,true),(13,true)] [true,true,true,true,true,true,true,true,true,true,true,true,true,true,false,false] (by kernel_rfl) (by kernel_rfl) (by kernel_rfl) rfl (⟨.head _,.tail _ (.tail _ (.head _))⟩) ?_) |  (first|refine WA.one (S:=[true,true,true,true,true,true,true,true,true,true,true,true,true,true,false,false]) (i:=14) (by kernel_rfl) rfl ?_|refine WA.one (S:=[true,true,true,true,true,true,true,true,true,true,true,true,true,true,true,false]) (i:=15) (by kernel_rfl) rfl ?_|refine WA.nil (S:=[true,true,true,true,true,true,true,true,true,true,true,true,true,true,true,true]) (by kernel_rfl) ?_) |  (refine ZAh rfl (ZCL (List.Perm.swap _ _ _) (SW.appK elV (OpD.t rfl) (OpD.t rfl) (by decide) (ZTv _ _ hol))) (fun _=>⟨.tail _ (.head _),.tail _ (.tail _ (.head _))⟩) fun va'=>?_;dsimp only [ZB,z0,z1,List.cons_append,List.nil_append]) |  (refine ZAh rfl (ZCL ZKM (ZDU (hp1:=[_]) (β:=Value) (H:=fun vq=>[ZW vq 28 ZE ((ZE7 D ((q:Int),Z3 0 fs ch[q]) ch[q]).map (·.2))]) (D:=fun vq=>ZEC [dS Zc X,dS ZE ((ZE7 D ((q:Int),Z3 0 fs ch[q]) ch[q]).map (·.1)),dX vq]) (caps:=[]) cp Tryz.call40 OpD.f (ArgsD.cons (OpD.t rfl) (ArgsD.cons (OpD.t rfl) (ArgsD.cons (OpD.t rfl) ArgsD.nil))) (fun d hp2 ⟨v,h1,h2⟩=>⟨v,h1,h2⟩))) (fun _=>⟨.tail _ (.tail _ (.head _)),.tail _ (.tail _ (.tail _ (.head _)))⟩) fun vC4=>?_;dsimp only [ZB,z0,z1,List.cons_append,List.nil_append])|(refine WM.nil ?_)|(apply ZCq rfl;(focus (intro c hcc;apply ZF;(exact ZR rfl);((first|(refine ZBu (R:=Zc) (_gR:=inferInstance) ZNn hkL hch (OpD.t rfl) (OpD.t rfl))|(apply SY.load;exact ZCl;exact OpD.t rfl)|(refine ZAw (R:=ZE) (_gR:=inferInstance) ZBx (OpD.t rfl) (OpD.t rfl) hq)|(apply SY.load;exact ZCM;exact OpD.t rfl)|(apply ZAN;exact tyV;exact OpD.t rfl;exact hcc.1)|(refine ZAr ZAd (OpD.t rfl) hcc.2 (by decide) rfl)|((first|apply SY.move|apply SY.assign|apply SY.lss|apply SY.gtr|apply SY.neq) <;> (exact oD))|(apply SY.buildE;(exact eD);((try simp only [List.map_cons,List.map_nil]);(repeat (first|exact Zq|(apply Zh;(first|exact OpD.t rfl|exact OpD.i|exact OpD.b|exact OpD.tle rfl (by first|exact ZI|exact ZH (by decide))|exact ⟨ZI⟩|exact ⟨ZH (by decide)⟩)))));rfl;rfl;decide;(intro _;exact ZAV);(exact (by simp)))|fail);all_goals infer_instance)));dsimp only [ZB,z0,z1])|((first|apply WL.opN|apply WD.opN);exact yF;dsimp only [ZB,z0,z1])|refine WL.nil ?_|refine ZA fun Kx hK=>?_|(refine hK _ _ ?_;clear hK)|refine WC.region ?_ |  (refine WL.alloc (dst:=some 14) tzVx (ZLq rfl rfl) fun b14=>?_;dsimp only [ZB,z0,z1]) |  (refine Zw tyV (OpD.t rfl) (OpD.t rfl) ZAV ?_;dsimp only [ZB,z0,z1]) |  (refine WL.perm ZKM (ZAG ZAd (OpD.t rfl) (OpD.t rfl) rfl rfl (WL.perm ZKM (WL.drop (WL.perm ZAv ?_))));dsimp only [ZB,z0,z1])|((first|apply WL.opN|apply WD.opN);(focus ((first|(refine ZBu (R:=Zc) (_gR:=inferInstance) ZNn hkL hch (OpD.t rfl) (OpD.t rfl))|(apply SY.len;exact OpD.t rfl;exact ZDL;exact ZBx.unt)|(refine ZAw (R:=ZE) (_gR:=inferInstance) ZBx (OpD.t rfl) (OpD.t rfl) hq)|(apply SY.call (cN) Tryz.call39;exact ArgsD.cons (OpD.t rfl) (ArgsD.cons (OpD.t rfl) (ArgsD.nil)))|(apply ZGs vxT;exact OpD.t rfl;exact OpD.t rfl)|((first|apply SY.move|apply SY.assign|apply SY.lss|apply SY.gtr|apply SY.neq) <;> (exact oD))|((first|apply SY.add) <;> first|exact oD|omega)|fail);all_goals infer_instance));dsimp only [ZB,z0,z1])|(apply ZC;(exact oD);all_goals (intro h;try exact xD))|refine WC.skip ?_|refine WC.block ?_|refine ThenD.n ?_));all_goals (first|((repeat clear hK);(repeat clear Kx))))
         all_goals try (exfalso;first|contradiction|omega)
         (refine ⟨(q+1,_,_) , ?_,by first|omega|(simp only;omega),by ((try simp only);  (rw [htk,hs2])),?_⟩;rotate_left;((try dsimp only [ZK,z0,z1]);repeat (first|exact LeF.nil|refine ZD (k:=?_)));(try dsimp only))
         omega
        ·have hD:=hend hq
         subst hD
         rw [List.take_of_length_le (show ((ZCT fs ch).map (·.1)).length≤q by rw [List.length_map];omega)]
         refine ZHO (s:=12) rfl ?_
         dsimp only [z0,z1]
         ((repeat' (first|((first|apply WL.opN|apply WD.opN);exact yF;dsimp only [ZB,z0,z1])|refine WL.nil ?_|refine ZA fun Kx hK=>?_|(refine hK _ _ ?_;clear hK)|(refine Kont.skip ?_;clear hK)|refine WC.region ?_ |  (refine Z1 (k:=0) ZCl (OpD.t rfl) (OpD.t rfl) ZAa (by simp) ?_;dsimp only [ZB,z0,z1])|((first|apply WL.opN|apply WD.opN);(focus ((first|(refine ZBu (R:=Zc) (_gR:=inferInstance) ZNn hkL hch (OpD.t rfl) (OpD.t rfl))|(apply SY.len;exact OpD.t rfl;exact ZDL;exact ZBx.unt)|(refine Ze ZAe (OpD.t rfl) (by decide))|(refine Ze ZUL (OpD.t rfl) (by decide))|(refine Zb ZCl (OpD.t rfl) (.head _) rfl)|(apply SY.call (cU) Tryz.call41;(exact aD))|((first|apply SY.move|apply SY.assign|apply SY.lss|apply SY.gtr|apply SY.neq) <;> (exact oD))|((first|apply SY.add) <;> first|exact oD|omega)|fail);all_goals infer_instance));dsimp only [ZB,z0,z1])|(apply ZC;(exact oD);all_goals (intro h;try exact xD))|refine WC.exit ?_|refine ThenD.n ?_));all_goals (first|((repeat clear hK);(repeat clear Kx))))
         all_goals try (exfalso;first|contradiction|omega)
         (refine ⟨(k+1,_) , ?_,by first|omega|(simp only;omega),by ((try simp only);  (rw [hs1];rfl)),?_⟩;rotate_left;((try dsimp only [ZK,z0,z1]);repeat (first|exact LeF.nil|refine ZD (k:=?_)));(try dsimp only))
         omega
      ·have hw:=hwe hk
       have hkL:¬ k<L.length:=by omega
       ((repeat' (first|((first|apply WL.opN|apply WD.opN);exact yF;dsimp only [ZB,z0,z1])|refine WL.nil ?_|refine ZA fun Kx hK=>?_|(refine hK _ _ ?_;clear hK)|(refine Kont.skip ?_;clear hK)|refine WC.region ?_|((first|apply WL.opN|apply WD.opN);(focus ((first|(apply SY.len;exact OpD.t rfl;exact ZDL;exact ZNn.unt)|((first|apply SY.move|apply SY.assign|apply SY.lss|apply SY.gtr|apply SY.neq) <;> (exact oD))|((first|apply SY.add) <;> first|exact oD|omega)|fail);all_goals infer_instance));dsimp only [ZB,z0,z1])|(apply ZC;(exact oD);all_goals (intro h;try exact xD))|refine WC.exit ?_|refine ThenD.n ?_));all_goals (first|((repeat clear hK);(repeat clear Kx))))
       all_goals try (exfalso;first|contradiction|omega)
       (refine ⟨(i+1,_) , ?_,by first|omega|(simp only;omega),by ((try simp only);  (rw [hwi,<- hw])),?_⟩;rotate_left;((try dsimp only [ZK,z0,z1]);repeat (first|exact LeF.nil|refine ZD (k:=?_)));(try dsimp only))
       omega
    ·rw [List.take_of_length_le (by omega)] at hA
     ((repeat' (first|((first|apply WL.opN|apply WD.opN);exact yF;dsimp only [ZB,z0,z1])|refine WL.nil ?_|refine ZA fun Kx hK=>?_|(refine hK _ _ ?_;clear hK)|(refine Kont.skip ?_;clear hK)|refine WC.region ?_ |  (refine WL.perm ZAv (ZN ZAd rfl (OpD.t rfl) ZB3 (WL.drop ?_));dsimp only [ZB,z0,z1])|((first|apply WL.opN|apply WD.opN);(focus ((first|(refine ZAr ZAd (OpD.t rfl) (.head _) (by decide) rfl)|((first|apply SY.move|apply SY.assign|apply SY.lss|apply SY.gtr|apply SY.neq) <;> (exact oD))|(apply SY.len;(exact oD);(exact nD);(exact uD))|(apply Zs ZCt;exact OpD.t rfl)|fail);all_goals infer_instance));dsimp only [ZB,z0,z1])|(apply ZC;(exact oD);all_goals (intro h;try exact xD))|refine WC.ret ?_|refine WC.exit ?_));all_goals (first|((repeat clear hK);(repeat clear Kx))))
     all_goals try (exfalso;first|contradiction|omega)
     exact ⟨trivial,_,_,[_],rfl,rfl,rfl,vC,by simp only [hA],by simp only [hA]⟩
theorem ZP8 (l:Cx) (hl:l.length≤4) (h5:∀ s∈l,s.length≤5) (h0:ZBH l=0):Fn Tryz.prog 11 [dS Cpx l] (dT [dS ZCb ((ZFZ (Zr l) l).1,(ZFZ (Zr l) l).2.map (·.1),(ZFZ (Zr l) l).2.map (·.2)),dI 0]):=ZKa (ZP9 l hl h5 h0) fun _ _ ⟨_,h1,h2⟩=>by subst h1;subst h2;exact ZFn
theorem ZGj (l:Cx) (hl:l.length≤4) (h5:∀ s∈l,s.length≤5):Fn Tryz.prog 11 [dS Cpx l] (dT [dS ZCb (ZL8 l).1,dI (ZL8 l).2]):=by
 by_cases h0:ZBH l=0
 ·rw [show ZL8 l=(((ZFZ (Zr l) l).1,(ZFZ (Zr l) l).2.map (·.1),(ZFZ (Zr l) l).2.map (·.2)),0) from if_neg (by omega)]
  exact ZP8 l hl h5 h0
 ·rw [show ZL8 l=(([],[],[]),ZBH l) from if_pos h0]
  exact ZNJ l h0
end
end Go.Proofs.YtlgmojhmmbhgfaaGreatDoor
