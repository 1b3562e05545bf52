/- Part 41: walks by contracts, and plain laws. -/
import Derived.Test.YtofkoleingbbpaaGreatDoorXa40
set_option linter.unusedVariables false
set_option linter.unusedSimpArgs false
set_option linter.unusedSectionVars false
set_option maxRecDepth 100000
set_option maxHeartbeats 64000000
namespace Go.Proofs.YtofkoleingbbpaaGreatDoor
section
open Go.RowKit
open C34

variable {S:Prop}
theorem ZEr {ops:Array Oper} {hp:List HObj} {fr:List Dat} {dst:Option Tmp} {ty:TypeId} {ps:String} {af:Array Edge} {g:Option (Nat × Bool)} {T2:TypeId} {x y:Operand} {p q b:Bool} (e:(p != q)=b) (hx:OpD fr x (dB p)) (hy:OpD fr y (dB q)) :
  SY Tryz.prog ops hp ⟨dst,.binOp .neq 4 x y T2,ty,ps,af,g⟩ fr (dB b):=SY.val fun {I w a} ho=>by
 have h1:a.eval x = .bool p:=hx.get (by simp[Op.operands]) ho;have h2:a.eval y = .bool q:=hy.get (by simp[Op.operands]) ho;refine⟨.bool b,?_,rfl⟩;have:=nqBB x y p q w;unfold execOp;simp only[h1,h2];rw[Sem.run_bind,this,e];simp
theorem ZLG {ops:Array Oper} {hp:List HObj} {fr:List Dat} {dst:Option Tmp} {ty:TypeId} {ps:String} {af:Array Edge} {g:Option (Nat × Bool)} {t:Tmp} {args:Array Operand} {ats:Array TypeId} {q:List Vx->Bool} {s:List Vx} {b:Bool} (e:q s=b) (ht:OpD fr (.tmp t) (dOk q)) (ha:ArgsD fr args.toList [dS ZM s]) :
  SY Tryz.prog ops hp ⟨dst,.call { callee:=.value (.tmp t),args:=args,argTypes:=ats },ty,ps,af,g⟩ fr (dB b):=by
 subst e;exact ZBJ (A:=fun s:List Vx=>[dS ZM s]) (r:=fun s=>dB (q s)) (x:=s) ht ha
theorem ZJN (l:Cx) (vs:List Vx) (A:List Int) (L:List Cx) (h:ZCE l vs A=0) (hfr:ZG7 l L=0) (hF:ZF8 l≤400) (hLs:∀lv∈L,lv.length≤1000) (hS:S->ZEs l) (hne:l≠[]\/S):Fn Tryz.prog 27 [dS (ZSi S) l,dS Lab (vs,A),dS ZFw L] (dI (ZUY l (Zd vs A) L)):=by
 have cB:=ZGG l vs A h;have heul:=ZD8 h;have hck:=(ZAY.1 (ZBI heul).1).2.2.1;have cF:=ZH1 l (Zd vs A) L (ZBI heul).1 fun lv hl=>by have:=hLs lv hl;omega
 rw[hfr] at cF;obtain⟨hL1,hL8,hLok⟩:=ZG8 hfr;obtain⟨f,hf⟩:∃f,Zd vs A=f:=⟨_,rfl⟩;rw[hf] at cB cF ⊢;obtain⟨o,ho⟩:∃o,ZUY l f L=o:=⟨_,rfl⟩;rw[ho];unfold ZUY at ho;obtain⟨V0,hV0⟩:∃V0,ZSd l f 0 [] L=V0:=⟨_,rfl⟩;rw[hV0] at ho;have hLsm:S->∀j (hj:j<L.length),∀s∈L[j],∀v∈s,v.1<100/\v.2<100:=fun q j hj s hs v hv=>by
  obtain⟨x,hx,hsx⟩:=ZRr.1 (hLok j hj s hs).2.2;have:=hS q x hx v (by
   unfold Z8 at hsx;simpa using List.all_eq_true.1 hsx v hv)
  exact⟨this.1.2,this.2.2⟩
 (refine ZE Tryz.func27 rfl rfl ?_;simp only[Tryz.ntmps27,List.length_cons,List.length_nil,Nat.reduceAdd,Nat.reduceSub,List.replicate_succ,List.replicate_zero,List.cons_append,List.nil_append])
 refine ZSk (S:=S) 0 rfl (fun P w v hv=>?_) ?_
 ·rcases hne with hne|hs
  ·exact ZSz hne (fun s hs e=>(Zi.1 (hck s hs)).1 (by rw[e];rfl)) hv
  ·exact .inr hs
 (repeat' (first|((first|apply WL.opN|apply WD.opN);exact yF;dsimp only[ZC,z0,z1])|refine WL.nil ?_|refine ZA fun Kx hK=>?_|(refine hK _ _ ?_;clear hK)|refine WC.region ?_ |  (refine WL.alloc (dst:=some 7) ZFJ (Zj rfl rfl) fun b9=>?_;dsimp only[ZC,z0,z1]) |  (refine ZP ZBx rfl (OpD.t rfl) (ZAD (n:=2) (by decide) rfl) ?_;dsimp only[ZC,z0,z1]) |  (refine WL.makeMap kvS ZCT fun bo=>?_;dsimp only[ZC,z0,z1])|((first|apply WL.opN|apply WD.opN);(focus ((first|(exact SY.box (OpD.t rfl) (fun I w v h=>ZAL I w v (ZCW I w v h)))|(apply SY.load;exact ZAz;exact OpD.t rfl)|(apply SY.load;exact ZBx;exact OpD.t rfl)|(apply SY.call cB Tryz.call57;exact ArgsD.cons (OpD.tle rfl ZCW) (ArgsD.cons (OpD.t rfl) ArgsD.nil))|(apply SY.call (cF) Tryz.call67;(exact aD))|(apply SY.len;exact OpD.t rfl;exact ZB0;exact ZAK.unt)|((first|apply SY.move|apply SY.assign|apply SY.lss|apply SY.gtr|apply SY.eql|apply SY.neq|apply SY.not) <;> (exact oD))|(apply SY.extract;(exact oD);rfl)|(apply SY.box;(exact oD);(exact hD))|fail);all_goals infer_instance));dsimp only[ZC,z0,z1])|(apply ZG;(exact oD);all_goals (intro h;try exact xD))|refine WC.skip ?_|refine WC.block ?_))
 all_goals try (exfalso;first|contradiction|omega)
 (refine WC.loopU (X:=Nat × Nat) (fun x=>[(42,dI (x.1:Int)),(10,dX (.map (some x.2))),(6,dA),(11,dA),(12,dA),(13,dA),(15,dA),(16,dA),(17,dA),(19,dA),(21,dA),(23,dA),(43,dA),(44,dA),(45,dA),(46,dA),(47,dA),(48,dA),(49,dA),(50,dA),(51,dA),(52,dA),(53,dA),(54,dA),(55,dA),(56,dA),(57,dA),(58,dA),(59,dA),(60,dA),(61,dA),(62,dA),(63,dA),(64,dA),(65,dA),(66,dA),(67,dA),(68,dA),(69,dA),(70,dA),(71,dA),(72,dA),(73,dA),(74,dA),(75,dA),(76,dA),(77,dA),(78,dA),(79,dA),(80,dA),(81,dA),(82,dA),(83,dA),(84,dA),(85,dA),(86,dA),(87,dA),(88,dA),(89,dA),(90,dA),(91,dA),(92,dA),(93,dA),(94,dA),(95,dA),(96,dA),(97,dA),(98,dA),(99,dA),(100,dA),(101,dA),(102,dA),(103,dA),(104,dA),(105,dA),(106,dA),(107,dA),(108,dA),(109,dA),(110,dA),(111,dA),(112,dA),(113,dA),(114,dA),(115,dA),(116,dA),(117,dA),(118,dA)]) (fun x=>([hM x.2 kvS ZCT (setT txS (ZDD L x.1)),ZIj S])) (fun x=>L.length-x.1) (fun x=>x.1≤L.length/\ZSd l f x.1 (ZDD L x.1) (L.drop x.1)=V0) (0,bo) ?start ?frame0 ?objs0 ?round)
 case start=>exact⟨Nat.zero_le _,hV0⟩
 case frame0=>exact zFr
 case objs0=>rfl
 case round =>
  rintro⟨k,bo⟩ ⟨hk,hE⟩;simp only at hk hE;dsimp only[ZL,z0,z1];have hPo:OkT okS (setT txS (ZDD L k)):=OkT.setT fun s hs=>by
   unfold ZDD at hs;by_cases h0:k=0
   ·rw[if_pos h0] at hs;cases hs
   ·rw[if_neg h0,<- ZF1 (show k-1<L.length by omega)] at hs;exact ZAH (hLok _ _ s hs).1
  by_cases hkl:k<L.length
  ·have hkI:(k:Int)<(L.length:Int):=by omega
   have hk7:k≤7:=by omega
   rw[ZQi hkl] at hE;have hnx:=ZEJ hkl;have hok:=hLok k hkl;have hsm:=fun q=>hLsm q k hkl;have hlvl:=hLs _ (List.getElem_mem hkl);have cP:=ZKZ l f (k:Int) ⟨by omega,by omega⟩;have hprev:∀s∈ZDD L k,ZAC s=0:=fun s hs=>by
    unfold ZDD at hs;by_cases h0:k=0
    ·rw[if_pos h0] at hs;cases hs
    ·rw[if_neg h0,<- ZF1 (show k-1<L.length by omega)] at hs;exact(hLok _ _ s hs).1
   obtain⟨lv,hlv⟩:∃lv,L[k]=lv:=⟨_,rfl⟩;rw[hlv] at hE hnx hok hsm hlvl;obtain⟨pv,hpv⟩:∃pv,ZDD L k=pv:=⟨_,rfl⟩;rw[hpv] at hE hPo hprev ⊢;(repeat' (first|((first|apply WL.opN|apply WD.opN);exact yF;dsimp only[ZC,z0,z1])|refine WL.nil ?_|refine ZA fun Kx hK=>?_|(refine hK _ _ ?_;clear hK)|refine WC.region ?_ |  (refine WL.makeMap kvS ZCT fun bi=>?_;dsimp only[ZC,z0,z1])|((first|apply WL.opN|apply WD.opN);(focus ((first|(refine Z6 (D:=fun z=>dP 1 false (dS Zh z)) hlv (SY.ix (R:=Zh) (_gR:=inferInstance) (k:=k) ZAK (OpD.t rfl) (OpD.t rfl) hkl))|((first|apply SY.move|apply SY.assign|apply SY.lss|apply SY.gtr|apply SY.eql|apply SY.neq|apply SY.not) <;> (exact oD))|(apply SY.len;(exact oD);(exact nD);(exact uD))|fail);all_goals infer_instance));dsimp only[ZC,z0,z1])|(apply ZB;(exact oD);all_goals (intro h;try exact xD))|refine WC.skip ?_|refine WC.block ?_))
   all_goals try (exfalso;first|contradiction|omega)
   refine ZDQ (d':=dS (ZA5 S) lv) 48 (mAt 2 rfl) rfl (fun _ _ _=>gain_S) ?_;dsimp only[z0,z1];(refine WC.loopU (X:=Nat) (fun i=>[(50,dI (i:Int)),(6,dA),(15,dA),(16,dA),(17,dA),(19,dA),(51,dA),(52,dA),(53,dA),(54,dA),(55,dA),(56,dA),(57,dA),(58,dA),(59,dA),(60,dA),(61,dA),(62,dA),(63,dA),(64,dA),(65,dA),(66,dA),(67,dA),(68,dA),(69,dA),(70,dA),(71,dA),(72,dA),(73,dA),(74,dA),(75,dA),(76,dA),(77,dA),(78,dA),(79,dA),(80,dA),(81,dA),(82,dA),(83,dA)]) (fun i=>([hM bi kvS ZCT (if k=0 then[] else togL txS (ZX k) (lv.take i)),hM bo kvS ZCT (setT txS pv),ZIj S])) (fun i=>lv.length-i) (fun i=>i≤lv.length/\(lv.take i).all (ZAi f (k:Int))=true) 0 ?start ?frame0 ?objs0 ?round)
   case start=>exact⟨Nat.zero_le _,rfl⟩
   case frame0=>exact zFr
   case objs0=>simp[togL]
   case round =>
    rintro i ⟨hi,hall⟩;dsimp only[ZL,z0,z1];by_cases hil:i<lv.length
    ·have hiI:(i:Int)<(lv.length:Int):=by omega
     obtain⟨hcs,hcl,_⟩:=hok _ (List.getElem_mem hil);cases hp:ZAi f (k:Int) lv[i] with
     | false =>
      have hv:V0=false:=by
       rw[<- hE];unfold ZNW;have:lv.all (ZAi f (k:Int))=false:=by
        cases q:lv.all (ZAi f (k:Int)) with
        | false=>rfl
        | true =>
         have:=List.all_eq_true.1 q _ (List.getElem_mem hil);rw[hp] at this;cases this
       rw[this];rfl
      rw[hv,if_pos rfl] at ho;subst ho;((repeat' (first|((first|apply WL.opN|apply WD.opN);exact yF;dsimp only[ZC,z0,z1])|refine WL.nil ?_|refine ZA fun Kx hK=>?_|(refine hK _ _ ?_;clear hK)|refine WC.region ?_|((first|apply WL.opN|apply WD.opN);(focus ((first|(apply SY.load;exact ZBx;exact OpD.t rfl)|(apply SY.call (cP) Tryz.call60;(exact aD))|(refine ZLG hp (OpD.t rfl) ?_;exact ArgsD.cons (OpD.tle rfl ZNV) ArgsD.nil)|((first|apply SY.move|apply SY.assign|apply SY.lss|apply SY.gtr|apply SY.eql|apply SY.neq|apply SY.not) <;> (exact oD))|(apply SY.ix;(exact eD);(exact oD);(exact oD);exact kD)|fail);all_goals infer_instance));dsimp only[ZC,z0,z1])|(apply ZB;(exact oD);all_goals (intro h;try exact xD))|(apply ZO;(exact oD);all_goals (intro h;try exact xD))|refine WC.skip ?_|refine WC.ret ?_|refine WC.block ?_|refine ThenD.r ?_|refine InBlockD.r ?_));all_goals (first|((repeat clear hK);(repeat clear Kx))))
      all_goals try (exfalso;first|contradiction|omega)
      (refine⟨trivial,_,rfl,?_⟩;exact fD)
     | true =>
      have hall':(lv.take (i+1)).all (ZAi f (k:Int))=true:=by
       rw[ZAQ hil,List.all_append,hall,List.all_cons,hp];rfl
      by_cases hk0:k=0
      ·subst hk0;((repeat' (first|((first|apply WL.opN|apply WD.opN);exact yF;dsimp only[ZC,z0,z1])|refine WL.nil ?_|refine ZA fun Kx hK=>?_|(refine hK _ _ ?_;clear hK)|refine WC.region ?_|((first|apply WL.opN|apply WD.opN);(focus ((first|(apply SY.load;exact ZBx;exact OpD.t rfl)|(apply SY.call (cP) Tryz.call60;(exact aD))|(refine ZLG hp (OpD.t rfl) ?_;exact ArgsD.cons (OpD.tle rfl ZNV) ArgsD.nil)|((first|apply SY.move|apply SY.assign|apply SY.lss|apply SY.gtr|apply SY.eql|apply SY.neq|apply SY.not) <;> (exact oD))|((first|apply SY.add|apply SY.rem) <;> first|exact oD|omega)|(apply SY.ix;(exact eD);(exact oD);(exact oD);exact kD)|fail);all_goals infer_instance));dsimp only[ZC,z0,z1])|(apply ZB;(exact oD);all_goals (intro h;try exact xD))|(apply ZO;(exact oD);all_goals (intro h;try exact xD))|refine WC.skip ?_|refine WC.block ?_|refine ThenD.n ?_));all_goals (first|((repeat clear hK);(repeat clear Kx))))
       all_goals try (exfalso;first|contradiction|omega)
       rw[if_pos rfl];(refine⟨i+1 , ?_,by first|omega|(simp only;omega),by((try simp only);  simp),?_⟩;rotate_left;((try dsimp only[ZL,z0,z1]);repeat (first|exact LeF.nil|refine ZD (k:=?_)));(try dsimp only))
       exact⟨hil,hall'⟩
      ·have hk0I:(k:Int)>0:=by omega
       have hFc:Fn Tryz.prog 68 [dS ZM lv[i],dI (k:Int)] (dT [dS Zh (ZX k lv[i]),dI 0]):=by
        have:=ZIe lv[i] (k:Int);rwa[ZEh hcs (by omega) (by omega)] at this
       have hfc:∀t∈ZX k lv[i],ZAC t=0:=fun t ht=>(ZA7 hcs (by omega) ht).1;have hfs:S->∀t∈ZX k lv[i],∀v∈t,v.1<100/\v.2<100:=fun q t ht v hv=>hsm q _ (List.getElem_mem hil) v (((ZAy _ _ _).1 ht).1.subset hv);have hsn:=ZKv (kx:=txS) (fac:=ZX k) hil;have hM0:OkT okS (togL txS (ZX k) (lv.take i)):=OkT.togL fun s hs t ht=>ZAH (by
        obtain⟨h1,h2,_⟩:=hok s (List.mem_of_mem_take hs);exact(ZA7 h1 (by omega) ht).1)
       have hfl:=ZQW (Zi.1 hcs).2.1 k;rw[if_neg hk0];generalize togL txS (ZX k) (lv.take i)=M0 at *;generalize hfsE:ZX k lv[i]=fs at *;(repeat' (first|((first|apply WL.opN|apply WD.opN);exact yF;dsimp only[ZC,z0,z1])|refine WL.nil ?_|refine ZA fun Kx hK=>?_|(refine hK _ _ ?_;clear hK)|refine WC.region ?_|((first|apply WL.opN|apply WD.opN);(focus ((first|(apply SY.load;exact ZBx;exact OpD.t rfl)|(apply SY.call (cP) Tryz.call60;(exact aD))|(refine ZLG hp (OpD.t rfl) ?_;exact ArgsD.cons (OpD.tle rfl ZNV) ArgsD.nil)|(apply SY.call hFc Tryz.call68;exact ArgsD.cons (OpD.tle rfl ZNV) (ArgsD.cons (OpD.t rfl) ArgsD.nil))|((first|apply SY.move|apply SY.assign|apply SY.lss|apply SY.gtr|apply SY.eql|apply SY.neq|apply SY.not) <;> (exact oD))|(apply SY.len;(exact oD);(exact nD);(exact uD))|(apply SY.ix;(exact eD);(exact oD);(exact oD);exact kD)|(apply SY.extract;(exact oD);rfl)|fail);all_goals infer_instance));dsimp only[ZC,z0,z1])|(apply ZB;(exact oD);all_goals (intro h;try exact xD))|(apply ZO;(exact oD);all_goals (intro h;try exact xD))|refine WC.skip ?_|refine WC.block ?_))
       all_goals try (exfalso;first|contradiction|omega)
       refine ZDQ (d':=dS (ZA5 S) fs) 68 (mAt 2 rfl) rfl (fun _ _ _=>gain_S) ?_;dsimp only[z0,z1];(refine WC.loopU (X:=Nat) (fun m=>[(70,dI (m:Int)),(19,dA),(71,dA),(72,dA),(73,dA),(74,dA),(75,dA),(76,dA),(77,dA),(78,dA),(79,dA),(80,dA),(81,dA),(82,dA)]) (fun m=>([hM bi kvS ZCT (ZF9 txS (fs.take m) M0),hM bo kvS ZCT (setT txS pv),ZIj S])) (fun m=>fs.length-m) (fun m=>m≤fs.length) 0 ?start ?frame0 ?objs0 ?round)
       case start=>exact Nat.zero_le _
       case frame0=>exact zFr
       case objs0=>rfl
       case round =>
        rintro m hm;dsimp only[ZL,z0,z1];by_cases hml:m<fs.length
        ·have hmI:(m:Int)<(fs.length:Int):=by omega
         have hcf:=hfc _ (List.getElem_mem hml);have cK:=ZF0 (S:=S) hcf fun q=>hfs q _ (List.getElem_mem hml);have hM1:OkT okS (ZF9 txS (fs.take m) M0):=hM0.togs fun t ht=>ZAH (hfc t (List.mem_of_mem_take ht));have hsn2:=ZQZ (kx:=txS) (m:=M0) hml;unfold ZUV at hsn2;generalize ZF9 txS (fs.take m) M0=M1 at *;obtain⟨b1,hb1⟩:∃b1,(lookM M1 (txS fs[m])).getD false=b1:=⟨_,rfl⟩;have hv1:=optB _ hb1;rw[hb1] at hsn2;((repeat' (first|((first|apply WL.opN|apply WD.opN);exact yF;dsimp only[ZC,z0,z1])|refine WL.nil ?_|refine ZA fun Kx hK=>?_|(refine hK _ _ ?_;clear hK)|refine WC.region ?_ |  (refine ZBW (v:=txS fs[m]) (u:=!b1) ZDx ZBa (OpD.t rfl) (OpD.t rfl) isX (OpD.t rfl) isB (ZAH hcf) hM1.ok hM1.nd ?_;dsimp only[ZC,z0,z1])|((first|apply WL.opN|apply WD.opN);(focus ((first|(apply SY.call (cK) Tryz.call69;(exact aD))|(exact ZDP (Z6 (D:=fun z=>dX z) hv1 (SY.lookM ZDx ZBa (OpD.t rfl) (mAt 0 rfl) (OpD.t rfl) isX (ZAH hcf) hM1.ok hM1.nd)))|(exact SY.not (OpD.t rfl))|((first|apply SY.move|apply SY.assign|apply SY.lss|apply SY.gtr|apply SY.eql|apply SY.neq|apply SY.not) <;> (exact oD))|((first|apply SY.add|apply SY.rem) <;> first|exact oD|omega)|(apply SY.ix;(exact eD);(exact oD);(exact oD);exact kD)|fail);all_goals infer_instance));dsimp only[ZC,z0,z1])|(apply ZB;(exact oD);all_goals (intro h;try exact xD))|refine WC.skip ?_|refine WC.block ?_|refine ThenD.n ?_));all_goals (first|((repeat clear hK);(repeat clear Kx))))
         all_goals try (exfalso;first|contradiction|omega)
         rw[<- hsn2];(refine zNx (m+1) ?_;(try dsimp only))
         exact hml
        ·have hmI:¬ (m:Int)<(fs.length:Int):=by omega
         obtain rfl:m=fs.length:=by omega
         rw[List.take_length,<- hsn];((repeat' (first|((first|apply WL.opN|apply WD.opN);exact yF;dsimp only[ZC,z0,z1])|refine WL.nil ?_|refine ZA fun Kx hK=>?_|(refine hK _ _ ?_;clear hK)|(refine Kont.skip ?_;clear hK)|refine WC.region ?_|((first|apply WL.opN|apply WD.opN);(focus ((first|((first|apply SY.move|apply SY.assign|apply SY.lss|apply SY.gtr|apply SY.eql|apply SY.neq|apply SY.not) <;> (exact oD))|((first|apply SY.add|apply SY.rem) <;> first|exact oD|omega)|fail);all_goals infer_instance));dsimp only[ZC,z0,z1])|(apply ZB;(exact oD);all_goals (intro h;try exact xD))|refine WC.exit ?_|refine ThenD.n ?_));all_goals (first|((repeat clear hK);(repeat clear Kx))))
         all_goals try (exfalso;first|contradiction|omega)
         (refine⟨i+1 , ?_,by first|omega|(simp only;omega),by((try simp only);  rw[if_neg hk0]),?_⟩;rotate_left;((try dsimp only[ZL,z0,z1]);repeat (first|exact LeF.nil|refine ZD (k:=?_)));(try dsimp only))
         exact⟨hil,hall'⟩
    ·have hiI:¬ (i:Int)<(lv.length:Int):=by omega
     obtain rfl:i=lv.length:=by omega
     rw[List.take_length] at hall ⊢;unfold ZNW at hE;rw[hall,Bool.true_and] at hE;by_cases hk0:k=0
     ·rw[decide_eq_true hk0,Bool.true_or,Bool.true_and] at hE;rw[if_pos hk0];have hk0I:¬ (k:Int)>0:=by omega
      obtain⟨MI,hMI⟩:∃MI:List (List UInt8 × Bool),[]=MI:=⟨_,rfl⟩;rw[hMI];(repeat' (first|((first|apply WL.opN|apply WD.opN);exact yF;dsimp only[ZC,z0,z1])|refine WL.nil ?_|refine ZA fun Kx hK=>?_|(refine hK _ _ ?_;clear hK)|(refine Kont.skip ?_;clear hK)|refine WC.region ?_ |  (refine WL.makeMap kvS ZCT fun bo2=>?_;dsimp only[ZC,z0,z1])|((first|apply WL.opN|apply WD.opN);(focus ((first|((first|apply SY.move|apply SY.assign|apply SY.lss|apply SY.gtr|apply SY.eql|apply SY.neq|apply SY.not) <;> (exact oD))|(apply SY.len;(exact oD);(exact nD);(exact uD))|fail);all_goals infer_instance));dsimp only[ZC,z0,z1])|(apply ZB;(exact oD);all_goals (intro h;try exact xD))|refine WC.skip ?_|refine WC.exit ?_|refine WC.block ?_))
      all_goals try (exfalso;first|contradiction|omega)
      refine ZDQ (d':=dS (ZA5 S) lv) 108 (mAt 3 rfl) rfl (fun _ _ _=>gain_S) ?_;dsimp only[z0,z1];(refine WC.loopU (X:=Nat) (fun m=>[(110,dI (m:Int)),(23,dA),(111,dA),(112,dA),(113,dA),(114,dA),(115,dA),(116,dA),(117,dA)]) (fun m=>([hM bo2 kvS ZCT (setT txS (lv.take m)),hM bi kvS ZCT MI,hM bo kvS ZCT (setT txS pv),ZIj S])) (fun m=>lv.length-m) (fun m=>m≤lv.length) 0 ?start ?frame0 ?objs0 ?round)
      case start=>exact Nat.zero_le _
      case frame0=>exact zFr
      case objs0=>rfl
      case round =>
       rintro m hm;dsimp only[ZL,z0,z1];by_cases hml:m<lv.length
       ·have hmI:(m:Int)<(lv.length:Int):=by omega
        obtain⟨hcs,_,_⟩:=hok _ (List.getElem_mem hml);have cK:=ZF0 (S:=S) hcs fun q=>hsm q _ (List.getElem_mem hml);have hM1:OkT okS (setT txS (lv.take m)):=OkT.setT fun s hs=>ZAH (hok s (List.mem_of_mem_take hs)).1;have hsn:=ZHO (kx:=txS) hml;generalize setT txS (lv.take m)=M1 at *;((repeat' (first|((first|apply WL.opN|apply WD.opN);exact yF;dsimp only[ZC,z0,z1])|refine WL.nil ?_|refine ZA fun Kx hK=>?_|(refine hK _ _ ?_;clear hK)|refine WC.region ?_ |  (refine ZBW (v:=txS lv[m]) (u:=true) ZDx ZBa (OpD.t rfl) (OpD.t rfl) isX OpD.b isB (ZAH hcs) hM1.ok hM1.nd ?_;dsimp only[ZC,z0,z1])|((first|apply WL.opN|apply WD.opN);(focus ((first|(apply SY.call (cK) Tryz.call69;(exact aD))|((first|apply SY.move|apply SY.assign|apply SY.lss|apply SY.gtr|apply SY.eql|apply SY.neq|apply SY.not) <;> (exact oD))|((first|apply SY.add|apply SY.rem) <;> first|exact oD|omega)|(apply SY.ix;(exact eD);(exact oD);(exact oD);exact kD)|fail);all_goals infer_instance));dsimp only[ZC,z0,z1])|(apply ZB;(exact oD);all_goals (intro h;try exact xD))|refine WC.skip ?_|refine WC.block ?_|refine ThenD.n ?_));all_goals (first|((repeat clear hK);(repeat clear Kx))))
        all_goals try (exfalso;first|contradiction|omega)
        rw[<- hsn];(refine zNx (m+1) ?_;(try dsimp only))
        exact hml
       ·have hmI:¬ (m:Int)<(lv.length:Int):=by omega
        obtain rfl:m=lv.length:=by omega
        rw[List.take_length];refine WC.perm (List.Perm.swap _ _ _) (WC.drop (WC.perm (List.Perm.swap _ _ _) (WC.drop ?_)));((repeat' (first|((first|apply WL.opN|apply WD.opN);exact yF;dsimp only[ZC,z0,z1])|refine WL.nil ?_|refine ZA fun Kx hK=>?_|(refine hK _ _ ?_;clear hK)|(refine Kont.skip ?_;clear hK)|refine WC.region ?_|((first|apply WL.opN|apply WD.opN);(focus ((first|((first|apply SY.move|apply SY.assign|apply SY.lss|apply SY.gtr|apply SY.eql|apply SY.neq|apply SY.not) <;> (exact oD))|((first|apply SY.add|apply SY.rem) <;> first|exact oD|omega)|fail);all_goals infer_instance));dsimp only[ZC,z0,z1])|(apply ZB;(exact oD);all_goals (intro h;try exact xD))|refine WC.exit ?_|refine ThenD.n ?_));all_goals (first|((repeat clear hK);(repeat clear Kx))))
        all_goals try (exfalso;first|contradiction|omega)
        rw[<- hnx];(refine zNx (k+1,bo2) ?_;(try dsimp only))
        exact⟨hkl,hE⟩
     ·rw[decide_eq_false hk0,Bool.false_or] at hE;rw[if_neg hk0];have hk0I:(k:Int)>0:=by omega
      have hMIo:OkT okS (togL txS (ZX k) lv):=OkT.togL fun s hs t ht=>ZAH (by
       obtain⟨h1,h2,_⟩:=hok s hs;exact(ZA7 h1 (by omega) ht).1)
      have hlkI:∀g,ZAC g=0->(lookM (togL txS (ZX k) lv) (txS g)).getD false=ZPu (ZX k) lv g:=fun g hg =>
       ZST (fun s hs=>ZIC (Zi.1 (hok s hs).1).2.2.2 k) fun s hs t ht e=>ZFr (by
        obtain⟨h1,h2,_⟩:=hok s hs;exact(ZA7 h1 (by omega) ht).1) hg e
      have hlkO:∀g,ZAC g=0->(lookM (setT txS pv) (txS g)).getD false=ZS3 pv g:=fun g hg =>
       ZSM fun s hs e=>ZFr (hprev s hs) hg e
      obtain⟨MI,hMI⟩:∃MI,togL txS (ZX k) lv=MI:=⟨_,rfl⟩;rw[hMI] at hMIo hlkI ⊢;have cC:=ZJ3 l f k (by omega);obtain⟨F,hFe⟩:∃F,ZCk l (k:Int) (ZF6 f (((2 ^ k:Nat):Int)-1))=F:=⟨_,rfl⟩;have cF2:=ZJG l f (k:Int) (ZF6 f (((2 ^ k:Nat):Int)-1)) (ZKr heul (by omega));have hFc:∀s∈F,ZAC s=0:=fun s hs=>by rw[<- hFe] at hs;exact(ZEm heul (by omega) (by omega) hs).1
      have hFs:S->∀s∈F,∀v∈s,v.1<100/\v.2<100:=fun q s hs=>by rw[<- hFe] at hs;exact ZEL heul (by omega) (by omega) hS hs q
      have hFl:F.length≤1000:=by rw[<- hFe];have:=ZDc (q:=ZF6 f (((2 ^ k:Nat):Int)-1)) heul (k:=k) (by omega) (by omega);omega
      rw[hFe] at hE cF2;(repeat' (first|((first|apply WL.opN|apply WD.opN);exact yF;dsimp only[ZC,z0,z1])|refine WL.nil ?_|refine WD.nil ?_|refine ZA fun Kx hK=>?_|(refine hK _ _ ?_;clear hK)|(refine Kont.skip ?_;clear hK)|refine WC.region ?_|(apply WC.draw;kernel_rfl;kernel_rfl)|((first|apply WL.opN|apply WD.opN);(focus ((first|(apply SY.load;exact ZBx;exact OpD.t rfl)|(apply SY.call (cC) Tryz.call70;(exact aD))|(apply SY.call (cF2) Tryz.call59;(exact aD))|((first|apply SY.move|apply SY.assign|apply SY.lss|apply SY.gtr|apply SY.eql|apply SY.neq|apply SY.not) <;> (exact oD))|(apply SY.len;(exact oD);(exact nD);(exact uD))|fail);all_goals infer_instance));dsimp only[ZC,z0,z1])|(apply ZB;(exact oD);all_goals (intro h;try exact xD))|refine WC.exit ?_|refine WC.block ?_))
      all_goals try (exfalso;first|contradiction|omega)
      refine ZDQ (d':=dS (ZA5 S) F) 91 (mAt 2 rfl) rfl (fun _ _ _=>gain_S) ?_;dsimp only[z0,z1];(refine WC.loopU (X:=Nat) (fun m=>[(93,dI (m:Int)),(6,dA),(21,dA),(94,dA),(95,dA),(96,dA),(97,dA),(98,dA),(99,dA),(100,dA),(101,dA),(102,dA),(103,dA),(104,dA),(105,dA),(106,dA)]) (fun m=>([hM bi kvS ZCT MI,hM bo kvS ZCT (setT txS pv),ZIj S])) (fun m=>F.length-m) (fun m=>m≤F.length/\(((F.drop m).all fun g=>ZPu (ZX k) lv g == ZS3 pv g) && ZSd l f (k+1) (ZDD L (k+1)) (L.drop (k+1)))=V0) 0 ?start ?frame0 ?objs0 ?round)
      case start=>exact⟨Nat.zero_le _,hE⟩
      case frame0=>exact zFr
      case objs0=>rfl
      case round =>
       rintro m ⟨hm,hE2⟩;dsimp only[ZL,z0,z1];by_cases hml:m<F.length
       ·have hmI:(m:Int)<(F.length:Int):=by omega
        have hc:=hFc _ (List.getElem_mem hml);have cK:=ZF0 (S:=S) hc fun q=>hFs q _ (List.getElem_mem hml);have hv1:=optB _ (hlkI _ hc);have hv2:=optB _ (hlkO _ hc);rw[List.drop_eq_getElem_cons hml,List.all_cons] at hE2;obtain⟨b1,hb1⟩:∃b1,ZPu (ZX k) lv F[m]=b1:=⟨_,rfl⟩;obtain⟨b2,hb2⟩:∃b2,ZS3 pv F[m]=b2:=⟨_,rfl⟩;rw[hb1] at hv1;rw[hb2] at hv2;rw[hb1,hb2] at hE2;cases hbb:(b1 != b2) with
        | true =>
         have hbe:(b1 == b2)=false:=by cases b1 <;> cases b2 <;> simp_all
         rw[hbe,Bool.false_and,Bool.false_and] at hE2;rw[<- hE2,if_pos rfl] at ho;subst ho;((repeat' (first|((first|apply WL.opN|apply WD.opN);exact yF;dsimp only[ZC,z0,z1])|refine WL.nil ?_|refine WD.nil ?_|refine ZA fun Kx hK=>?_|(refine hK _ _ ?_;clear hK)|refine WC.region ?_|(apply WC.draw;kernel_rfl;kernel_rfl)|((first|apply WL.opN|apply WD.opN);(focus ((first|(apply SY.call (cK) Tryz.call69;(exact aD))|(exact ZDP (Z6 (D:=fun z=>dX z) hv1 (SY.lookM ZDx ZBa (OpD.t rfl) (mAt 0 rfl) (OpD.t rfl) isX (ZAH hc) hMIo.ok hMIo.nd)))|(exact ZDP (Z6 (D:=fun z=>dX z) hv2 (SY.lookM ZDx ZBa (OpD.t rfl) (mAt 1 rfl) (OpD.t rfl) isX (ZAH hc) hPo.ok hPo.nd)))|(exact ZEr hbb (OpD.t rfl) (OpD.t rfl))|((first|apply SY.move|apply SY.assign|apply SY.lss|apply SY.gtr|apply SY.eql|apply SY.neq|apply SY.not) <;> (exact oD))|(apply SY.ix;(exact eD);(exact oD);(exact oD);exact kD)|fail);all_goals infer_instance));dsimp only[ZC,z0,z1])|(apply Zc;(exact oD);(with_reducible rfl))|(apply ZB;(exact oD);all_goals (intro h;try exact xD))|refine WC.skip ?_|refine WC.ret ?_|refine WC.block ?_|refine ThenD.r ?_|refine InBlockD.r ?_));all_goals (first|((repeat clear hK);(repeat clear Kx))))
         all_goals try (exfalso;first|contradiction|omega)
         (refine⟨trivial,_,rfl,?_⟩;exact fD)
        | false =>
         have hbe:(b1 == b2)=true:=by cases b1 <;> cases b2 <;> simp_all
         rw[hbe,Bool.true_and] at hE2;((repeat' (first|((first|apply WL.opN|apply WD.opN);exact yF;dsimp only[ZC,z0,z1])|refine WL.nil ?_|refine WD.nil ?_|refine ZA fun Kx hK=>?_|(refine hK _ _ ?_;clear hK)|refine WC.region ?_|(apply WC.draw;kernel_rfl;kernel_rfl)|((first|apply WL.opN|apply WD.opN);(focus ((first|(apply SY.call (cK) Tryz.call69;(exact aD))|(exact ZDP (Z6 (D:=fun z=>dX z) hv1 (SY.lookM ZDx ZBa (OpD.t rfl) (mAt 0 rfl) (OpD.t rfl) isX (ZAH hc) hMIo.ok hMIo.nd)))|(exact ZDP (Z6 (D:=fun z=>dX z) hv2 (SY.lookM ZDx ZBa (OpD.t rfl) (mAt 1 rfl) (OpD.t rfl) isX (ZAH hc) hPo.ok hPo.nd)))|(exact ZEr hbb (OpD.t rfl) (OpD.t rfl))|((first|apply SY.move|apply SY.assign|apply SY.lss|apply SY.gtr|apply SY.eql|apply SY.neq|apply SY.not) <;> (exact oD))|((first|apply SY.add|apply SY.rem) <;> first|exact oD|omega)|(apply SY.ix;(exact eD);(exact oD);(exact oD);exact kD)|fail);all_goals infer_instance));dsimp only[ZC,z0,z1])|(apply ZQ;(exact oD);(with_reducible rfl))|(apply ZB;(exact oD);all_goals (intro h;try exact xD))|refine WC.skip ?_|refine WC.block ?_|refine ThenD.n ?_));all_goals (first|((repeat clear hK);(repeat clear Kx))))
         all_goals try (exfalso;first|contradiction|omega)
         (refine zNx (m+1) ?_;(try dsimp only))
         exact⟨hml,hE2⟩
       ·have hmI:¬ (m:Int)<(F.length:Int):=by omega
        rw[List.drop_of_length_le (by omega)] at hE2;rw[List.all_nil,Bool.true_and] at hE2;have hE:=hE2;(repeat' (first|((first|apply WL.opN|apply WD.opN);exact yF;dsimp only[ZC,z0,z1])|refine WL.nil ?_|refine ZA fun Kx hK=>?_|(refine hK _ _ ?_;clear hK)|(refine Kont.skip ?_;clear hK)|refine WC.region ?_ |  (refine WL.makeMap kvS ZCT fun bo2=>?_;dsimp only[ZC,z0,z1])|((first|apply WL.opN|apply WD.opN);(focus ((first|((first|apply SY.move|apply SY.assign|apply SY.lss|apply SY.gtr|apply SY.eql|apply SY.neq|apply SY.not) <;> (exact oD))|(apply SY.len;(exact oD);(exact nD);(exact uD))|fail);all_goals infer_instance));dsimp only[ZC,z0,z1])|(apply ZB;(exact oD);all_goals (intro h;try exact xD))|refine WC.exit ?_|refine WC.block ?_))
        all_goals try (exfalso;first|contradiction|omega)
        refine ZDQ (d':=dS (ZA5 S) lv) 108 (mAt 3 rfl) rfl (fun _ _ _=>gain_S) ?_;dsimp only[z0,z1];(refine WC.loopU (X:=Nat) (fun m=>[(110,dI (m:Int)),(23,dA),(111,dA),(112,dA),(113,dA),(114,dA),(115,dA),(116,dA),(117,dA)]) (fun m=>([hM bo2 kvS ZCT (setT txS (lv.take m)),hM bi kvS ZCT MI,hM bo kvS ZCT (setT txS pv),ZIj S])) (fun m=>lv.length-m) (fun m=>m≤lv.length) 0 ?start ?frame0 ?objs0 ?round)
        case start=>exact Nat.zero_le _
        case frame0=>exact zFr
        case objs0=>rfl
        case round =>
         rintro m hm;dsimp only[ZL,z0,z1];by_cases hml:m<lv.length
         ·have hmI:(m:Int)<(lv.length:Int):=by omega
          obtain⟨hcs,_,_⟩:=hok _ (List.getElem_mem hml);have cK:=ZF0 (S:=S) hcs fun q=>hsm q _ (List.getElem_mem hml);have hM1:OkT okS (setT txS (lv.take m)):=OkT.setT fun s hs=>ZAH (hok s (List.mem_of_mem_take hs)).1;have hsn:=ZHO (kx:=txS) hml;generalize setT txS (lv.take m)=M1 at *;((repeat' (first|((first|apply WL.opN|apply WD.opN);exact yF;dsimp only[ZC,z0,z1])|refine WL.nil ?_|refine ZA fun Kx hK=>?_|(refine hK _ _ ?_;clear hK)|refine WC.region ?_ |  (refine ZBW (v:=txS lv[m]) (u:=true) ZDx ZBa (OpD.t rfl) (OpD.t rfl) isX OpD.b isB (ZAH hcs) hM1.ok hM1.nd ?_;dsimp only[ZC,z0,z1])|((first|apply WL.opN|apply WD.opN);(focus ((first|(apply SY.call (cK) Tryz.call69;(exact aD))|((first|apply SY.move|apply SY.assign|apply SY.lss|apply SY.gtr|apply SY.eql|apply SY.neq|apply SY.not) <;> (exact oD))|((first|apply SY.add|apply SY.rem) <;> first|exact oD|omega)|(apply SY.ix;(exact eD);(exact oD);(exact oD);exact kD)|fail);all_goals infer_instance));dsimp only[ZC,z0,z1])|(apply ZB;(exact oD);all_goals (intro h;try exact xD))|refine WC.skip ?_|refine WC.block ?_|refine ThenD.n ?_));all_goals (first|((repeat clear hK);(repeat clear Kx))))
          all_goals try (exfalso;first|contradiction|omega)
          rw[<- hsn];(refine zNx (m+1) ?_;(try dsimp only))
          exact hml
         ·have hmI:¬ (m:Int)<(lv.length:Int):=by omega
          obtain rfl:m=lv.length:=by omega
          rw[List.take_length];refine WC.perm (List.Perm.swap _ _ _) (WC.drop (WC.perm (List.Perm.swap _ _ _) (WC.drop ?_)));((repeat' (first|((first|apply WL.opN|apply WD.opN);exact yF;dsimp only[ZC,z0,z1])|refine WL.nil ?_|refine ZA fun Kx hK=>?_|(refine hK _ _ ?_;clear hK)|(refine Kont.skip ?_;clear hK)|refine WC.region ?_|((first|apply WL.opN|apply WD.opN);(focus ((first|((first|apply SY.move|apply SY.assign|apply SY.lss|apply SY.gtr|apply SY.eql|apply SY.neq|apply SY.not) <;> (exact oD))|((first|apply SY.add|apply SY.rem) <;> first|exact oD|omega)|fail);all_goals infer_instance));dsimp only[ZC,z0,z1])|(apply ZB;(exact oD);all_goals (intro h;try exact xD))|refine WC.exit ?_|refine ThenD.n ?_));all_goals (first|((repeat clear hK);(repeat clear Kx))))
          all_goals try (exfalso;first|contradiction|omega)
          rw[<- hnx];(refine zNx (k+1,bo2) ?_;(try dsimp only))
          exact⟨hkl,hE⟩
  ·have hkI:¬ (k:Int)<(L.length:Int):=by omega
   obtain rfl:k=L.length:=by omega
   rw[List.drop_length] at hE;have hv:V0=true:=hE.symm;subst hv;rw[if_neg (by decide)] at ho;have hL0:0<L.length:=by omega
   have el0:=ZF1 hL0;obtain⟨l0,hl0e⟩:∃l0,L.getD 0 []=l0:=⟨_,rfl⟩;rw[hl0e] at el0 ho;have hll:=hLs _ (List.getElem_mem hL0);rw[el0] at hll;by_cases h2:(l0.length:Int).tmod 2=0
   ·rw[if_pos h2] at ho;subst ho;((repeat' (first|((first|apply WL.opN|apply WD.opN);exact yF;dsimp only[ZC,z0,z1])|refine WL.nil ?_|refine ZA fun Kx hK=>?_|(refine hK _ _ ?_;clear hK)|(refine Kont.skip ?_;clear hK)|refine WC.region ?_|((first|apply WL.opN|apply WD.opN);(focus ((first|(refine Z6 (D:=fun z=>dP 1 false (dS Zh z)) el0 (SY.ix (R:=Zh) (_gR:=inferInstance) (k:=0) ZAK (OpD.t rfl) OpD.i hL0))|(exact SY.rem (OpD.t rfl) OpD.i (by decide))|((first|apply SY.move|apply SY.assign|apply SY.lss|apply SY.gtr|apply SY.eql|apply SY.neq|apply SY.not) <;> (exact oD))|(apply SY.len;(exact oD);(exact nD);(exact uD))|fail);all_goals infer_instance));dsimp only[ZC,z0,z1])|(apply ZB;(exact oD);all_goals (intro h;try exact xD))|refine WC.ret ?_|refine WC.exit ?_|refine ThenD.r ?_));all_goals (first|((repeat clear hK);(repeat clear Kx))))
    all_goals try (exfalso;first|contradiction|omega)
    (refine⟨trivial,_,rfl,?_⟩;exact fD)
   ·rw[if_neg h2] at ho;subst ho;((repeat' (first|((first|apply WL.opN|apply WD.opN);exact yF;dsimp only[ZC,z0,z1])|refine WL.nil ?_|refine ZA fun Kx hK=>?_|(refine hK _ _ ?_;clear hK)|(refine Kont.skip ?_;clear hK)|refine WC.region ?_|((first|apply WL.opN|apply WD.opN);(focus ((first|(refine Z6 (D:=fun z=>dP 1 false (dS Zh z)) el0 (SY.ix (R:=Zh) (_gR:=inferInstance) (k:=0) ZAK (OpD.t rfl) OpD.i hL0))|(exact SY.rem (OpD.t rfl) OpD.i (by decide))|((first|apply SY.move|apply SY.assign|apply SY.lss|apply SY.gtr|apply SY.eql|apply SY.neq|apply SY.not) <;> (exact oD))|(apply SY.len;(exact oD);(exact nD);(exact uD))|fail);all_goals infer_instance));dsimp only[ZC,z0,z1])|(apply ZB;(exact oD);all_goals (intro h;try exact xD))|refine WC.skip ?_|refine WC.ret ?_|refine WC.exit ?_));all_goals (first|((repeat clear hK);(repeat clear Kx))))
    all_goals try (exfalso;first|contradiction|omega)
    (refine⟨trivial,_,rfl,?_⟩;exact fD)
end
end Go.Proofs.YtofkoleingbbpaaGreatDoor
