/- Part 45: walks by contracts, and plain laws. -/
import Derived.Test.YtlgmojhmmbhgfaaGreatDoorVg43
set_option linter.unusedVariables false
set_option linter.unusedSimpArgs false
set_option linter.unusedSectionVars false
set_option maxRecDepth 100000
set_option maxHeartbeats 4000000
namespace Go.Proofs.YtlgmojhmmbhgfaaGreatDoor
section
open Go.RowKit

abbrev ZMU (b2 b7:Nat) (F:Cx) (d:List (Vx × List Vx)) (vC:Value) (tl:List HObj):List HObj :=
 Zp b7 30 [dS Zc F,dS ZE (d.map (·.1)),dX vC]::ZW vC 28 ZE (d.map (·.2))::ZQ b2 30 3 true (dX (.agg #[.slice none 0 0,.slice none 0 0,.slice none 0 0]))::tl
set_option maxHeartbeats 32000000 in
theorem ZJh (l:Cx) (hl:l.length≤4096) (hg:∀ s∈l,ZAJ s=0) (he:ZCn l=0):CallC Tryz.prog 31 [dS Cpx l] [] (fun d hp2=>∃ vC,d=dT [ZEC [dS Zc (ZDR (Zr l) l).1,dS ZE ((ZDR (Zr l) l).2.map (·.1)),dX vC],dI 0]/\hp2=[ZW vC 28 ZE ((ZDR (Zr l) l).2.map (·.2))]):=by
 have hd:∀ s∈l,Z0 s=true:=fun s hs=>by
  unfold ZCn at he
  by_cases q:l.all Z0=false
  ·rw [if_pos q] at he;exact absurd he (by decide)
  ·exact List.all_eq_true.1 (by simpa using q) s hs
 have h5:∀ s∈l,s.length≤5:=fun s hs=>Classical.byContradiction fun q=>by
  unfold ZCn at he
  by_cases hd:l.all Z0=false
  ·rw [if_pos hd] at he;exact absurd he (by decide)
  ·rw [if_neg hd,if_pos (List.any_eq_true.2 ⟨s,hs,decide_eq_true (by omega)⟩)] at he
   exact absurd he (by decide)
 have hsum:ZC6 l≤4096:=Classical.byContradiction fun q=>by
  unfold ZCn at he
  by_cases hd:l.all Z0=false
  ·rw [if_pos hd] at he;exact absurd he (by decide)
  ·rw [if_neg hd] at he
   by_cases ha:l.any (fun s=>decide (5<s.length))=true
   ·rw [if_pos ha] at he;exact absurd he (by decide)
   ·rw [if_neg ha,if_pos (by omega)] at he;exact absurd he (by decide)
 have h8:∀ s∈l,s.length≤8:=fun s hs=>by have:=h5 s hs;omega
 have cFa:=ZLF l hl h8
 have hwl:=fun i h=>ZLy (Zr l) l h5 i h
 have hst:=fun i=>ZJe (l:=l) i
 have hwsn:=fun i (h:i<l.length)=>ZJg (fs:=Zr l) h
 generalize Zr l=fs at *
 refine ZBU ZAd Tryz.func31 rfl rfl fun tl0=>?_
 simp only [Tryz.ntmps31,List.length_cons,List.length_nil,Nat.reduceAdd,Nat.reduceSub,List.replicate_succ,List.replicate_zero,List.cons_append,List.nil_append]
 (repeat' (first|((first|apply WL.opN|apply WD.opN);exact yF;dsimp only [ZB,z0,z1])|refine WL.nil ?_|refine ZA fun Kx hK=>?_|(refine hK _ _ ?_;clear hK)|refine WC.region ?_ |  (refine WL.alloc (dst:=some 2) ZCH (Zj rfl rfl rfl) fun b2=>?_;dsimp only [ZB,z0,z1])|((first|apply WL.opN|apply WD.opN);(focus ((first|(exact SY.box (OpD.t rfl) Zt)|fail);all_goals infer_instance));dsimp only [ZB,z0,z1])|refine WC.block ?_))
 (refine WC.loopU (X:=Nat) (fun k=>[(5,dI (k:Int)),(3,dA),(16,dA),(17,dA),(18,dA),(19,dA),(20,dA),(21,dA),(22,dA),(23,dA),(24,dA),(25,dA),(26,dA),(27,dA),(28,dA),(29,dA),(30,dA)]) (fun k=>(ZQ b2 30 3 true (dX (.agg #[.slice none 0 0,.slice none 0 0,.slice none 0 0]))::tl0)) (fun k=>l.length-k) (fun k=>k≤l.length) 0 ?start ?frame0 ?objs0 ?round)
 case start=>exact Nat.zero_le _
 case frame0=>((try dsimp only [ZK,z0,z1]);repeat (first|exact LeF.nil|refine ZD (k:=?_)))
 case objs0=>rfl
 case round =>
  rintro k k1
  dsimp only [ZK,z0,z1]
  by_cases hk:k<l.length
  ·have cD:=ZRj l[k]
   rw [hd _ (List.getElem_mem hk)] at cD
   ((repeat' (first|((first|apply WL.opN|apply WD.opN);exact yF;dsimp only [ZB,z0,z1])|refine WL.nil ?_|refine ZA fun Kx hK=>?_|(refine hK _ _ ?_;clear hK)|refine WC.region ?_|((first|apply WL.opN|apply WD.opN);(focus ((first|(exact ZB8 (OpD.t rfl))|(apply SY.call (cD) Tryz.call68;(exact aD))|((first|apply SY.move|apply SY.assign|apply SY.lss|apply SY.gtr|apply SY.not) <;> (exact oD))|((first|apply SY.add|apply SY.sub) <;> first|exact oD|omega)|(apply SY.len;(exact oD);(exact nD);(exact uD))|(apply ZAw;(exact eD);(exact oD);(exact oD);exact kD)|(apply Zs ZCt;exact OpD.t rfl)|fail);all_goals infer_instance));dsimp only [ZB,z0,z1])|(apply Zi;(exact oD);(with_reducible rfl))|(apply ZC;(exact oD);all_goals (intro h;try exact xD))|refine WC.skip ?_|refine WC.block ?_|refine ThenD.n ?_));all_goals (first|((repeat clear hK);(repeat clear Kx))))
   all_goals try (exfalso;first|contradiction|omega)
   (refine ⟨k+1,?_,by first|omega|(simp only;omega),rfl,?_⟩;rotate_left;((try dsimp only [ZK,z0,z1]);repeat (first|exact LeF.nil|refine ZD (k:=?_)));(try dsimp only))
   omega
  ·(repeat' (first|((first|apply WL.opN|apply WD.opN);exact yF;dsimp only [ZB,z0,z1])|refine WL.nil ?_|refine ZA fun Kx hK=>?_|(refine hK _ _ ?_;clear hK)|(refine Kont.skip ?_;clear hK)|refine WC.region ?_|((first|apply WL.opN|apply WD.opN);(focus ((first|((first|apply SY.move|apply SY.assign|apply SY.lss|apply SY.gtr|apply SY.not) <;> (exact oD))|(apply SY.len;(exact oD);(exact nD);(exact uD))|(apply Zs ZCt;exact OpD.t rfl)|fail);all_goals infer_instance));dsimp only [ZB,z0,z1])|(apply ZC;(exact oD);all_goals (intro h;try exact xD))|refine WC.exit ?_|refine WC.block ?_))
   all_goals try (exfalso;first|contradiction|omega)
   (refine WC.loopU (X:=Nat) (fun j=>[(6,dI (j:Int)),(4,dI ((ZC6 (l.take j):Nat):Int)),(3,dA),(31,dA),(32,dA),(33,dA),(34,dA),(35,dA),(36,dA),(37,dA),(38,dA),(39,dA),(40,dA),(41,dA),(42,dA),(43,dA),(44,dA),(45,dA),(46,dA),(47,dA),(48,dA),(49,dA),(50,dA),(51,dA),(52,dA),(53,dA),(54,dA)]) (fun j=>(ZQ b2 30 3 true (dX (.agg #[.slice none 0 0,.slice none 0 0,.slice none 0 0]))::tl0)) (fun j=>l.length-j) (fun j=>j≤l.length) 0 ?start ?frame0 ?objs0 ?round)
   case start=>exact Nat.zero_le _
   case frame0=>((try dsimp only [ZK,z0,z1]);repeat (first|exact LeF.nil|refine ZD (k:=?_)))
   case objs0=>rfl
   case round =>
    rintro j j1
    dsimp only [ZK,z0,z1]
    have hsj:=hst j
    by_cases hj:j<l.length
    ·have h5j:=h5 _ (List.getElem_mem hj)
     have cf:=ZRp l[j].length (by omega)
     have hf5:=ZLI ⟨l[j].length,by omega⟩
     simp only at hf5
     have hsn2:((ZC6 (l.take j):Nat):Int)+((ZI6 l[j].length:Nat):Int)=((ZC6 (l.take (j+1)):Nat):Int):=by rw [ZEn hj];omega
     ((repeat' (first|((first|apply WL.opN|apply WD.opN);exact yF;dsimp only [ZB,z0,z1])|refine WL.nil ?_|refine ZA fun Kx hK=>?_|(refine hK _ _ ?_;clear hK)|refine WC.region ?_|((first|apply WL.opN|apply WD.opN);(focus ((first|(apply SY.call (cf) Tryz.call69;(exact aD))|((first|apply SY.move|apply SY.assign|apply SY.lss|apply SY.gtr|apply SY.not) <;> (exact oD))|((first|apply SY.add|apply SY.sub) <;> first|exact oD|omega)|(apply SY.len;(exact oD);(exact nD);(exact uD))|(apply ZAw;(exact eD);(exact oD);(exact oD);exact kD)|(apply Zs ZCt;exact OpD.t rfl)|fail);all_goals infer_instance));dsimp only [ZB,z0,z1])|(apply ZC;(exact oD);all_goals (intro h;try exact xD))|refine WC.skip ?_|refine WC.block ?_|refine ThenD.n ?_));all_goals (first|((repeat clear hK);(repeat clear Kx))))
     all_goals try (exfalso;first|contradiction|omega)
     rw [hsn2]
     (refine ⟨j+1,?_,by first|omega|(simp only;omega),rfl,?_⟩;rotate_left;((try dsimp only [ZK,z0,z1]);repeat (first|exact LeF.nil|refine ZD (k:=?_)));(try dsimp only))
     omega
    ·rw [List.take_of_length_le (show l.length≤j by omega)]
     (repeat' (first|((first|apply WL.opN|apply WD.opN);exact yF;dsimp only [ZB,z0,z1])|refine WL.nil ?_|refine ZA fun Kx hK=>?_|(refine hK _ _ ?_;clear hK)|(refine Kont.skip ?_;clear hK)|refine WC.region ?_ |  (refine ZAZ (dst:=some 7) (zs:=[.slice none 0 0,.slice none 0 0,.slice none 0 0]) ZCH (by decide) (by simp [Value.oneCell']) fun b7=>?_;dsimp only [ZB,z0,z1,List.map_cons,List.map_nil])|((first|apply WL.opN|apply WD.opN);(focus ((first|(apply SY.call (cFa) Tryz.call37;(exact aD))|((first|apply SY.move|apply SY.assign|apply SY.lss|apply SY.gtr|apply SY.not) <;> (exact oD))|(apply SY.len;(exact oD);(exact nD);(exact uD))|(apply Zs ZCt;exact OpD.t rfl)|fail);all_goals infer_instance));dsimp only [ZB,z0,z1])|(apply ZC;(exact oD);all_goals (intro h;try exact xD))|refine WC.skip ?_|refine WC.exit ?_|refine WC.block ?_))
     all_goals try (exfalso;first|contradiction|omega)
     refine ZKm (ds':=[dS Zc [],dS ZE [],dX (.slice none 0 0)]) rfl (fun k d d' hd hd'=>by
      match k,hd,hd' with
      | 0,hd,hd'=>cases hd;cases hd';exact ZI
      | 1,hd,hd'=>cases hd;cases hd';exact ZH (by decide)
      | 2,hd,hd'=>cases hd;cases hd';exact Dat.le_refl _) ?_
     refine ZAy 28 ZE (WC.perm (List.Perm.swap _ _ _) ?_)
     (refine WC.loopU (X:=Nat × Value) (fun x=>[(9,dI (x.1:Int)),(10,dA),(11,dA),(12,dA),(13,dA),(14,dA),(15,dA),(60,dA),(61,dA),(62,dA),(63,dA),(64,dA),(65,dA),(66,dA),(67,dA),(68,dA),(69,dA),(70,dA),(71,dA),(72,dA),(73,dA),(74,dA),(75,dA),(76,dA),(77,dA),(78,dA),(79,dA),(80,dA),(81,dA),(82,dA),(83,dA),(84,dA),(85,dA),(86,dA),(87,dA),(88,dA),(89,dA),(90,dA),(91,dA),(92,dA),(93,dA),(94,dA),(95,dA),(96,dA),(97,dA),(98,dA),(99,dA),(100,dA),(101,dA),(102,dA),(103,dA),(104,dA),(105,dA),(106,dA),(107,dA),(108,dA),(109,dA),(110,dA),(111,dA),(112,dA),(113,dA),(114,dA),(115,dA),(116,dA),(117,dA),(118,dA),(119,dA),(120,dA),(121,dA),(122,dA)]) (fun x=>ZMU b2 b7 (ZDR fs (l.take x.1)).1 (ZDR fs (l.take x.1)).2 x.2 tl0) (fun x=>l.length-x.1) (fun x=>x.1≤l.length) (0,.slice none 0 0) ?start ?frame0 ?objs0 ?round)
     case start=>exact Nat.zero_le _
     case frame0=>((try dsimp only [ZK,z0,z1]);repeat (first|exact LeF.nil|refine ZD (k:=?_)))
     case objs0=>rfl
     case round =>
      rintro ⟨i,vC⟩ i1
      simp only at i1
      dsimp only [ZK,z0,z1]
      obtain ⟨w1,w2⟩:=hwl i i1
      have hsi:=hst i
      have hws:=hwsn i
      generalize hA:ZDR fs (l.take i)=A at *
      by_cases hi:i<l.length
      ·have hgi:=hg _ (List.getElem_mem hi)
       have hm:=h5 _ (List.getElem_mem hi)
       have hwi:=hws hi
       generalize hs:l[i]=s at *
       have hl0:=(ZO.1 hgi).1
       have hpos:=Nat.two_pow_pos s.length
       have hp:2 ^ s.length≤32:=Nat.pow_le_pow_right (n:=2) (by decide) hm
       have hshl:=ZEb ⟨s.length,by omega⟩
       simp only at hshl
       have c3:=ZGQ (2 ^ s.length-1) (2 ^ s.length-1) (Nat.le_refl _) (by omega)
       rw [show ((2 ^ s.length-1:Nat):Int)=((2 ^ s.length:Nat):Int)-1 by omega] at c3
       have hcnt:=ZKL ⟨2 ^ s.length-1,by omega⟩
       simp only at hcnt
       have hfl:∀ t∈ZBq s,t.length≤5:=fun t ht=>by rw [ZFc ht];exact hm
       have hfl0:∀ t∈ZBq s,0<t.length:=fun t ht=>by rw [ZFc ht];omega
       have hal:=fun k=>ZIG fs s ((ZBq s).take k) A fun t ht=>hfl t (List.mem_of_mem_take ht)
       have hasn:=fun k h=>ZPD (fs:=fs) (s:=s) (A:=A) (F:=ZBq s) (k:=k) h
       have hfe:(ZBq s).length=(ZBR (2 ^ s.length-1)).length:=by unfold ZBq;rw [List.length_map]
       have hfg:∀ (k:Nat) (h:k<(ZBq s).length) (h':k<(ZBR (2 ^ s.length-1)).length),(ZBq s)[k]=ZAk s (ZBR (2 ^ s.length-1))[k]:=fun k h h'=>by simp [ZBq]
       have hpl:∀ (k:Nat) (h':k<(ZBR (2 ^ s.length-1)).length),CallC Tryz.prog 71 [dS ZE s,dS ZBt (Zv (ZBR (2 ^ s.length-1))[k])] [] (fun d hp2=>∃ v,d=dX v/\hp2=[ZV v 43 2 RV (ZAk s (ZBR (2 ^ s.length-1))[k])]):=fun k h'=>ZOn s _ (by omega) fun b hb=>by have:=(ZBv hm (List.getElem_mem h')).1 b hb;omega
       have hat:∀ t∈ZBq s,∀ v∈t,∃ m:Nat,v.2=(m:Int)/\m<1048576:=fun t ht v hv=>by
        obtain ⟨bl,hbl,rfl⟩:=List.mem_map.1 ht
        obtain ⟨i,hi,e⟩:=List.mem_iff_getElem.1 hv
        have hi':i<s.length:=by rw [Z4] at hi;exact hi
        have h1:=((ZBv hm hbl).2 i hi').2
        rw [ZGU hi hi'] at e
        exact ⟨ZBX bl i 0,by rw [<- e],by omega⟩
       have hst0:A=ZHF fs s A ((ZBq s).take 0):=by rw [List.take_zero];rfl
       generalize ZBq s=F at *
       generalize ZBR (2 ^ s.length-1)=L at *
       (repeat' (first|((first|apply WL.opN|apply WD.opN);exact yF;dsimp only [ZB,z0,z1])|refine WL.nil ?_|refine ZA fun Kx hK=>?_|(refine hK _ _ ?_;clear hK)|refine WC.region ?_|((first|apply WL.opN|apply WD.opN);(focus ((first|(refine ZBu (R:=ZE) (_gR:=inferInstance) ZBx hi hs (OpD.t rfl) (OpD.t rfl))|(exact ZFt hshl (by omega) OpD.i (OpD.t rfl))|(apply SY.call (c3) Tryz.call70;(exact aD))|((first|apply SY.move|apply SY.assign|apply SY.lss|apply SY.gtr|apply SY.not) <;> (exact oD))|((first|apply SY.add|apply SY.sub) <;> first|exact oD|omega)|(apply SY.len;(exact oD);(exact nD);(exact uD))|(apply Zs ZCt;exact OpD.t rfl)|fail);all_goals infer_instance));dsimp only [ZB,z0,z1])|(apply ZC;(exact oD);all_goals (intro h;try exact xD))|refine WC.skip ?_|refine WC.block ?_))
       all_goals try (exfalso;first|contradiction|omega)
       (refine WC.loopU (X:=Nat × Value) (fun x=>[(12,dI (x.1:Int)),(13,dA),(14,dA),(15,dA),(77,dA),(78,dA),(79,dA),(80,dA),(81,dA),(82,dA),(83,dA),(84,dA),(85,dA),(86,dA),(87,dA),(88,dA),(89,dA),(90,dA),(91,dA),(92,dA),(93,dA),(94,dA),(95,dA),(96,dA),(97,dA),(98,dA),(99,dA),(100,dA),(101,dA),(102,dA),(103,dA),(104,dA),(105,dA),(106,dA),(107,dA),(108,dA),(109,dA),(110,dA),(111,dA),(112,dA),(113,dA),(114,dA),(115,dA),(116,dA),(117,dA),(118,dA),(119,dA),(120,dA),(121,dA),(122,dA)]) (fun x=>ZMU b2 b7 (ZHF fs s A (F.take x.1)).1 (ZHF fs s A (F.take x.1)).2 x.2 tl0) (fun x=>F.length-x.1) (fun x=>x.1≤F.length) (0,vC) ?start ?frame0 ?objs0 ?round)
       case start=>exact Nat.zero_le _
       case frame0=>((try dsimp only [ZK,z0,z1]);repeat (first|exact LeF.nil|refine ZD (k:=?_)))
       case objs0=>rfl
       case round =>
        rintro ⟨k,vC2⟩ k1
        simp only at k1
        dsimp only [ZK,z0,z1]
        have hal1:=hal k
        rw [List.length_take] at hal1
        obtain ⟨a1,a2⟩:=hal1
        have hasn1:=hasn k
        have hwe:¬ k<F.length->ZHF fs s A (F.take k)=ZHF fs s A F:=fun h=>by rw [List.take_of_length_le (by omega)]
        generalize hB:ZHF fs s A (F.take k)=B at *
        obtain ⟨X,d⟩:=B
        simp only at a1 a2
        have hFs:F.length=L.length:=hfe
        by_cases hk:k<F.length
        ·have hkL:k<L.length:=by omega
         have hkm:k<(L.map Zv).length:=by rw [List.length_map];exact hkL
         have hkv:(L.map Zv)[k]=Zv L[k]:=by simp
         have cP:=hpl k hkL
         have hge:=hfg k hk hkL
         have hat1:=hat _ (List.getElem_mem hk)
         have hfl1:=hfl _ (List.getElem_mem hk)
         have hfl2:=hfl0 _ (List.getElem_mem hk)
         have hs1:=hasn1 hk
         rw [hge] at hat1 hfl1 hfl2 hs1
         generalize ZAk s L[k]=t at *
         have cU:=ZRv X (t.map (ZDg fs s)) (by omega)
         (repeat' (first|((first|apply WL.opN|apply WD.opN);exact yF;dsimp only [ZB,z0,z1])|refine WL.nil ?_|refine ZA fun Kx hK=>?_|(refine hK _ _ ?_;clear hK)|refine WC.region ?_ |  (refine Z8 (hp1:=[]) (caps:=[]) cP Tryz.call71 OpD.f (ArgsD.cons (OpD.t rfl) (ArgsD.cons (OpD.t rfl) ArgsD.nil)) ?_;rintro d' hp2 ⟨v,rfl,rfl⟩;dsimp only [ZB,z0,z1,List.cons_append,List.nil_append])|((first|apply WL.opN|apply WD.opN);(focus ((first|(apply SY.len;exact OpD.t rfl;exact ZDL;exact ZJn.unt)|(refine ZBu (R:=ZBt) (_gR:=inferInstance) ZJn hkm hkv (OpD.t rfl) (OpD.t rfl))|(apply SY.load;exact tyIn;exact OpD.t rfl)|((first|apply SY.move|apply SY.assign|apply SY.lss|apply SY.gtr|apply SY.not) <;> (exact oD))|fail);all_goals infer_instance));dsimp only [ZB,z0,z1])|(apply ZC;(exact oD);all_goals (intro h;try exact xD))|refine WC.skip ?_|refine WC.block ?_))
         all_goals try (exfalso;first|contradiction|omega)
         refine ZKk hfl2 fun b cap hv hc1 hc2=>?_
         subst hv
         (refine WC.loopU (X:=Nat × Value) (fun x=>[(14,dI (x.1:Int)),(15,dA),(89,dA),(90,dA),(91,dA),(92,dA),(93,dA),(94,dA),(95,dA),(96,dA),(97,dA),(98,dA),(99,dA),(100,dA),(101,dA),(102,dA),(103,dA),(104,dA),(105,dA),(106,dA),(107,dA),(108,dA),(109,dA),(110,dA),(111,dA),(112,dA),(113,dA),(114,dA),(115,dA)]) (fun x=>(hV b t.length cap 43 (ZGg fs s t x.1)::ZMU b2 b7 X (ZEX fs s d (t.take x.1)) x.2 tl0)) (fun x=>t.length-x.1) (fun x=>x.1≤t.length) (0,vC2) ?start ?frame0 ?objs0 ?round)
         case start=>exact Nat.zero_le _
         case frame0=>((try dsimp only [ZK,z0,z1]);repeat (first|exact LeF.nil|refine ZD (k:=?_)))
         case objs0=>rfl
         case round =>
          rintro ⟨j,vC3⟩ j1
          simp only at j1
          dsimp only [ZK,z0,z1]
          have hdl:=ZGH fs s (t.take j) d
          have hdl2:(ZEX fs s d (t.take j)).length≤100000:=by
           rw [List.length_take] at hdl
           omega
          have hsn:=fun h=>ZMG (fs:=fs) (s:=s) (d:=d) (t:=t) (j:=j) h
          have hend:¬ j<t.length->ZEX fs s d (t.take j)=ZEX fs s d t:=fun h=>by rw [List.take_of_length_le (by omega)]
          generalize ZEX fs s d (t.take j)=D at *
          clear hdl
          by_cases hj:j<t.length
          ·obtain ⟨m,m1,m2⟩:=hat1 _ (List.getElem_mem hj)
           have cA:=ZTR s m (by omega) m2
           rw [<- m1] at cA
           have hcar:atB s m=ZEP s t[j]:=by unfold ZEP;rw [m1,Int.toNat_natCast]
           rw [hcar] at cA
           have hjm:j<(ZGg fs s t j).length:=by rw [ZLX j1];exact hj
           have hmt:(ZGg fs s t j)[j].2=t[j].2:=by rw [ZOU hj hjm]
           have hset:=ZQw hj hjm
           have hjm2:j<(ZGg fs s t (j+1)).length:=by rw [ZLX (by omega)];exact hj
           have hm2:=ZQu hj hjm2
           have cN:=ZDm fs (ZEP s t[j])
           have cp:=ZOu X D (ZDg fs s t[j]) (ZEP s t[j]) hdl2 vC3
           have hsnj:=hsn hj
           ((repeat' (first |  (refine WC.drawM (fun hp'=>hV b t.length cap 43 (ZGg fs s t (j+1))∈hp'/\Zp b7 30 [dS Zc X,dS ZE (D.map (·.1)),dX vC3]∈hp') 7 1 [(0,false),(1,false),(2,false),(3,false),(4,false),(5,false),(6,true)] [true,true,true,true,true,true,true,false] (by kernel_rfl) (by kernel_rfl) (by kernel_rfl) rfl (⟨.head _,.tail _ (.head _)⟩) ?_) |  (first|refine WA.one (S:=[true,true,true,true,true,true,true,false]) (i:=7) (by kernel_rfl) rfl ?_|refine WA.nil (S:=[true,true,true,true,true,true,true,true]) (by kernel_rfl) ?_) |  (refine ZAh rfl (ZCL ZAv (ZDU (hp1:=[_]) (β:=Value) (H:=fun vq=>[ZW vq 28 ZE ((ZE7 D (ZDg fs s t[j]) (ZEP s t[j])).map (·.2))]) (D:=fun vq=>ZEC [dS Zc X,dS ZE ((ZE7 D (ZDg fs s t[j]) (ZEP s t[j])).map (·.1)),dX vq]) (caps:=[]) cp Tryz.call40 OpD.f (ArgsD.cons (OpD.t rfl) (ArgsD.cons (OpD.t rfl) (ArgsD.cons (OpD.t rfl) ArgsD.nil))) (fun d hp2 ⟨v,h1,h2⟩=>⟨v,h1,h2⟩))) (fun _=>⟨.tail _ (.head _),.tail _ (.tail _ (.head _))⟩) fun vC4=>?_;dsimp only [ZB,z0,z1,List.cons_append,List.nil_append])|(refine WM.nil ?_)|(apply ZCq rfl;(focus (intro c hcc;apply ZF;(exact ZR rfl);((first|(refine ZFq elV (OpD.t rfl) (OpD.t rfl) rfl hj)|(refine ZAr ZAd (OpD.t rfl) hcc.2 (by decide) rfl)|(refine ZMp (k:=j) tyV (OpD.t rfl) hcc.1 (by omega) hjm2 hm2)|((first|apply SY.move|apply SY.assign|apply SY.lss|apply SY.gtr|apply SY.not) <;> (exact oD))|fail);all_goals infer_instance)));dsimp only [ZB,z0,z1])|((first|apply WL.opN|apply WD.opN);exact yF;dsimp only [ZB,z0,z1])|refine WL.nil ?_|refine ZA fun Kx hK=>?_|(refine hK _ _ ?_;clear hK)|refine WC.region ?_ |  (refine ZL3 (k:=j) tyI (OpD.t rfl) (OpD.t rfl) (by omega) hjm ?_;rw [hset];dsimp only [ZB,z0,z1]) |  (refine WL.perm ZAv (ZAG ZAd (OpD.t rfl) (OpD.t rfl) rfl rfl (WL.perm ZAv ?_));dsimp only [ZB,z0,z1])|((first|apply WL.opN|apply WD.opN);(focus ((first|(refine SY.len (n:=t.length) (OpD.t rfl) (fun _ _ v h=>⟨_,_,h⟩) elV.unt)|(refine ZFq elV (OpD.t rfl) (OpD.t rfl) rfl hj)|(refine Ze ZUM (OpD.t rfl) (by decide))|(refine ZL1 (k:=j) tyI (OpD.t rfl) (.head _) (by omega) hjm hmt)|(apply SY.call (cA) Tryz.call72;exact ArgsD.cons (OpD.t rfl) (ArgsD.cons (OpD.t rfl) (ArgsD.nil)))|(apply SY.call (cN) Tryz.call39;exact ArgsD.cons (OpD.t rfl) (ArgsD.cons (OpD.t rfl) (ArgsD.nil)))|((first|apply SY.move|apply SY.assign|apply SY.lss|apply SY.gtr|apply SY.not) <;> (exact oD))|((first|apply SY.add|apply SY.sub) <;> first|exact oD|omega)|fail);all_goals infer_instance));dsimp only [ZB,z0,z1])|(apply ZC;(exact oD);all_goals (intro h;try exact xD))|refine WC.skip ?_|refine WC.block ?_|refine ThenD.n ?_));all_goals (first|((repeat clear hK);(repeat clear Kx))))
           all_goals try (exfalso;first|contradiction|omega)
           (refine ⟨(j+1,_) , ?_,by first|omega|(simp only;omega),by ((try simp only);  (rw [hsnj])),?_⟩;rotate_left;((try dsimp only [ZK,z0,z1]);repeat (first|exact LeF.nil|refine ZD (k:=?_)));(try dsimp only))
           omega
          ·have hD:=hend hj
           subst hD
           rw [ZQv (show t.length≤j by omega)]
           have hjl:¬ j<(t.map (ZDg fs s)).length:=by rw [List.length_map];omega
           refine ZHO (s:=13) rfl ?_
           dsimp only [z0,z1]
           ((repeat' (first|((first|apply WL.opN|apply WD.opN);exact yF;dsimp only [ZB,z0,z1])|refine WL.nil ?_|refine ZA fun Kx hK=>?_|(refine hK _ _ ?_;clear hK)|(refine Kont.skip ?_;clear hK)|refine WC.region ?_ |  (refine Z1 (k:=0) ZCl (OpD.t rfl) (OpD.t rfl) ZAa (by simp) ?_;dsimp only [ZB,z0,z1])|((first|apply WL.opN|apply WD.opN);(focus ((first|(refine Ze ZAe (OpD.t rfl) (by decide))|(refine Ze ZUL (OpD.t rfl) (by decide))|(refine Zb ZCl (OpD.t rfl) (.head _) rfl)|(apply SY.call (cU) Tryz.call41;(exact aD))|((first|apply SY.move|apply SY.assign|apply SY.lss|apply SY.gtr|apply SY.not) <;> (exact oD))|((first|apply SY.add|apply SY.sub) <;> first|exact oD|omega)|(apply SY.len;(exact oD);(exact nD);(exact uD))|fail);all_goals infer_instance));dsimp only [ZB,z0,z1])|(apply ZC;(exact oD);all_goals (intro h;try exact xD))|refine WC.exit ?_|refine ThenD.n ?_));all_goals (first|((repeat clear hK);(repeat clear Kx))))
           all_goals try (exfalso;first|contradiction|omega)
           (refine ⟨(k+1,_) , ?_,by first|omega|(simp only;omega),by ((try simp only);  (rw [hs1];rfl)),?_⟩;rotate_left;((try dsimp only [ZK,z0,z1]);repeat (first|exact LeF.nil|refine ZD (k:=?_)));(try dsimp only))
           omega
        ·have hkm:¬ k<(L.map Zv).length:=by rw [List.length_map];omega
         have hw:=hwe hk
         ((repeat' (first|((first|apply WL.opN|apply WD.opN);exact yF;dsimp only [ZB,z0,z1])|refine WL.nil ?_|refine ZA fun Kx hK=>?_|(refine hK _ _ ?_;clear hK)|(refine Kont.skip ?_;clear hK)|refine WC.region ?_|((first|apply WL.opN|apply WD.opN);(focus ((first|(apply SY.len;exact OpD.t rfl;exact ZDL;exact ZJn.unt)|((first|apply SY.move|apply SY.assign|apply SY.lss|apply SY.gtr|apply SY.not) <;> (exact oD))|((first|apply SY.add|apply SY.sub) <;> first|exact oD|omega)|fail);all_goals infer_instance));dsimp only [ZB,z0,z1])|(apply ZC;(exact oD);all_goals (intro h;try exact xD))|refine WC.exit ?_|refine ThenD.n ?_));all_goals (first|((repeat clear hK);(repeat clear Kx))))
         all_goals try (exfalso;first|contradiction|omega)
         (refine ⟨(i+1,_) , ?_,by first|omega|(simp only;omega),by ((try simp only);  (rw [hwi,<- hw])),?_⟩;rotate_left;((try dsimp only [ZK,z0,z1]);repeat (first|exact LeF.nil|refine ZD (k:=?_)));(try dsimp only))
         omega
      ·rw [List.take_of_length_le (by omega)] at hA
       ((repeat' (first|((first|apply WL.opN|apply WD.opN);exact yF;dsimp only [ZB,z0,z1])|refine WL.nil ?_|refine ZA fun Kx hK=>?_|(refine hK _ _ ?_;clear hK)|(refine Kont.skip ?_;clear hK)|refine WC.region ?_ |  (refine WL.perm ZAv (ZN ZAd rfl (OpD.t rfl) ZB3 (WL.drop ?_));dsimp only [ZB,z0,z1])|((first|apply WL.opN|apply WD.opN);(focus ((first|(refine ZAr ZAd (OpD.t rfl) (.head _) (by decide) rfl)|((first|apply SY.move|apply SY.assign|apply SY.lss|apply SY.gtr|apply SY.not) <;> (exact oD))|(apply SY.len;(exact oD);(exact nD);(exact uD))|(apply Zs ZCt;exact OpD.t rfl)|fail);all_goals infer_instance));dsimp only [ZB,z0,z1])|(apply ZC;(exact oD);all_goals (intro h;try exact xD))|refine WC.ret ?_|refine WC.exit ?_));all_goals (first|((repeat clear hK);(repeat clear Kx))))
       all_goals try (exfalso;first|contradiction|omega)
       exact ⟨trivial,_,_,[_],rfl,rfl,rfl,vC,by simp only [hA],by simp only [hA]⟩
end
section
open Go.RowKit

theorem ZOM (l:Cx) (m:Int):Fn Tryz.prog 4 [dS Cpx l,dI m] (dB (decide ((l.length:Int)≤m) && decide (ZJ9 l≤2))):=by
 have c1:=ZUK l
 generalize ZJ9 l=n at *
 generalize ZUJ l=q at *
 (refine ZG Tryz.func4 rfl rfl ?_;simp only [Tryz.ntmps4,List.length_cons,List.length_nil,Nat.reduceAdd,Nat.reduceSub,List.replicate_succ,List.replicate_zero,List.cons_append,List.nil_append])
 by_cases hm:(l.length:Int)≤m
 ·rw [decide_eq_true hm,Bool.true_and]
  ((repeat' (first|(apply WL.opN;exact yF;dsimp only [ZB,z0,z1])|refine WL.nil ?_|refine ZA fun Kx hK=>?_|(refine hK _ _ ?_;clear hK)|refine WC.region ?_|(apply ZJ;(focus (first|exact wN|(apply ZF;(exact wY);((first|(exact SY.box (OpD.t rfl) Zt)|(apply SY.call (c1) Tryz.call14;(exact aD))|((first|apply SY.move|apply SY.assign|apply SY.leq) <;> (exact oD))|(apply SY.len;(exact oD);(exact nD);(exact uD))|(apply Zs ZCt;exact OpD.t rfl)|(apply Z6;(exact oD);(with_reducible rfl);(exact oD))|(apply SY.extract;(exact oD);rfl)|fail);all_goals infer_instance))));dsimp only [ZB,z0,z1])|((first|refine Za rfl rfl rfl (fun h=>?_) (fun h=>?_)|refine ZZ rfl rfl rfl (fun h=>?_) (fun h=>?_)|refine ZT rfl rfl rfl (fun h=>?_) (fun h=>?_)) <;> (first|(exfalso;first|omega|contradiction)|(dsimp only [z0,z1])))|refine WC.ret ?_));all_goals (first|((repeat clear hK);(repeat clear Kx))))
  all_goals first|(refine ⟨trivial,_,rfl,?_⟩;exact fD)|(exfalso;first|contradiction|omega)
 ·rw [decide_eq_false hm,Bool.false_and]
  ((repeat' (first|(apply WL.opN;exact yF;dsimp only [ZB,z0,z1])|refine WL.nil ?_|refine ZA fun Kx hK=>?_|(refine hK _ _ ?_;clear hK)|refine WC.region ?_|(apply ZJ;(focus (first|exact wN|(apply ZF;(exact wY);((first|(exact SY.box (OpD.t rfl) Zt)|(apply SY.call (c1) Tryz.call14;(exact aD))|((first|apply SY.move|apply SY.assign|apply SY.leq) <;> (exact oD))|(apply SY.len;(exact oD);(exact nD);(exact uD))|(apply Zs ZCt;exact OpD.t rfl)|(apply ZAS;(exact oD);(with_reducible rfl);(exact oD))|(apply SY.extract;(exact oD);rfl)|fail);all_goals infer_instance))));dsimp only [ZB,z0,z1])|((first|refine Za rfl rfl rfl (fun h=>?_) (fun h=>?_)|refine ZZ rfl rfl rfl (fun h=>?_) (fun h=>?_)|refine ZT rfl rfl rfl (fun h=>?_) (fun h=>?_)) <;> (first|(exfalso;first|omega|contradiction)|(dsimp only [z0,z1])))|refine WC.ret ?_));all_goals (first|((repeat clear hK);(repeat clear Kx))))
  all_goals first|(refine ⟨trivial,_,rfl,?_⟩;exact fD)|(exfalso;first|contradiction|omega)
end
section
open Go.RowKit
section
variable {ops:Array Oper} {hp:List HObj} {fr:List Dat} {dst:Option Tmp} {ty:TypeId} {ps:String} {af:Array Edge} {g:Option (Nat × Bool)}
theorem ZHM {x y:Operand} {xs:Cx} {vs:List Vx} (hx:OpD fr x (dS Cpx xs)) (hy:OpD fr y (dS ZE vs)):SY Tryz.prog ops hp ⟨dst,.build 30 #[(0,x),(1,y)],ty,ps,af,g⟩ fr (ZEC [dS Zc xs,dS ZE vs,dX (.slice none 0 0)]):=SY.val fun {I w a} ho=>by
 obtain ⟨u,h1,h0,h2⟩:Cpx I w (a.eval x) xs:=hx.get (by simp [Op.operands]) ho
 have h3:ArrK 2 RV I w (a.eval y) vs:=hy.get (by simp [Op.operands]) ho
 have h2':=h2
 obtain ⟨ad,c,hv,_⟩:=h2'
 subst hv
 have h3':=h3
 obtain ⟨ad2,c2,hv2,_⟩:=h3'
 have hm:∀ ad n c ad2 n2 c2 w,(Instr.build 30 #[(0,.agg #[.slice ad n c]),(1,.slice ad2 n2 c2)]).run Tryz.prog w = .ok (.agg #[.slice ad n c,.slice ad2 n2 c2,.slice none 0 0]) w:=by intro ad n c ad2 n2 c2 w;go_simp
 refine ⟨.agg #[.slice ad xs.length c,.slice ad2 vs.length c2,.slice none 0 0],?_,[_,_,_],rfl,rfl,by simp [Value.oneCell'],fun k c d hc hd=>?_⟩
 ·unfold execOp
  simp only [List.map_toArray,List.map_cons,List.map_nil,h1,hv2,Sem.run_bind,hm,Result.andThen_ok,Sem.run_pure]
 ·match k,hc,hd with
  | 0,hc,hd=>cases hc;cases hd;exact h2
  | 1,hc,hd=>cases hc;cases hd;rw [hv2] at h3;exact h3
  | 2,hc,hd=>cases hc;cases hd;rfl
end
section
variable {P:Program} {ops:Array Oper} {hp:List HObj} {fr:List Dat} {Q:ZAL} {rest:List Oper} {T:TypeId} {b:Nat}
theorem ZPk {zs:List Value} (hn:0<zs.length) (h1:∀ c∈zs,c.oneCell'=true) (h:WL P ops Q rest fr (Zp b T (zs.map dX)::hp)):WL P ops Q rest fr (ZQ b T zs.length true (dX (.agg zs.toArray))::hp):=WL.of fun P0 B w0 w a hh hf=>by
 obtain ⟨cs,u,c1,c2,c0,c3,c4,c5⟩:=hh.ok (ZQ b T zs.length true (dX (.agg zs.toArray))) (by simp)
 have hu:u = .agg zs.toArray:=c5
 simp only [if_true] at c4
 rw [hu] at c4
 have hcs:zs=cs:=by injection c4 with c4;exact List.toArray_inj c4
 subst hcs
 have hgr:w.grownBy w (ZQ b T zs.length true (dX (.agg zs.toArray))).blk:=⟨rfl,rfl,rfl,Nat.le_refl _,fun _ _ _=>rfl⟩
 have hok:(Zp b T (zs.map dX)).ok (fun k=>Imm P0 B (ZQ b T zs.length true (dX (.agg zs.toArray))::hp) k/\k<w.heap.size) w :=
  ⟨zs,c1,by simp,h1,fun k c d hc hd=>by
   rw [List.getElem?_map,hc] at hd
   cases hd
   rfl⟩
 exact h.on (hh.write hgr (.inl rfl) hok) (hf.mono fun _ _ hd=>ZM (o':=Zp b T (zs.map dX)) hgr (.inl rfl) hd)
end
end
end Go.Proofs.YtlgmojhmmbhgfaaGreatDoor
