/- Part 25 of the proof. -/
import Derived.Test.YtofkoleingbbpaaGreatDoorZa24
set_option linter.all false
set_option maxRecDepth 100000
set_option maxHeartbeats 64000000
namespace Go.Proofs.YtofkoleingbbpaaGreatDoor
section
open Go.RowKit
open C34

variable {S:Prop}
theorem ZEq {ops:Array Oper} {hp:List HObj} {fr:List Dat} {dst:Option Tmp} {ty:TypeId} {ps:String} {af:Array Edge} {g:Option (Nat × Bool)} {T2:TypeId} {x y:Operand} {p q b:Bool} (e:(p != q)=b) (hx:OpD fr x (dB p)) (hy:OpD fr y (dB q)) :
  SY Tryz.prog ops hp ⟨dst,.binOp .neq 4 x y T2,ty,ps,af,g⟩ fr (dB b):=ZWK fun {I w a} ho=>by
 have h1:a.eval x = .bool p:=hx.get (by simp[Op.operands]) ho;have h2:a.eval y = .bool q:=hy.get (by simp[Op.operands]) ho;refine⟨.bool b,?_,rfl⟩;have:=nqBB x y p q w;unfold execOp;simp only[h1,h2];rw[Sem.run_bind,this,e];simp
theorem ZLG {ops:Array Oper} {hp:List HObj} {fr:List Dat} {dst:Option Tmp} {ty:TypeId} {ps:String} {af:Array Edge} {g:Option (Nat × Bool)} {t:Tmp} {args:Array Operand} {ats:Array TypeId} {q:List Vx->Bool} {s:List Vx} {b:Bool} (e:q s=b) (ht:OpD fr (.tmp t) (dOk q)) (ha:ArgsD fr args.toList [dS ZI s]) :
  SY Tryz.prog ops hp ⟨dst,.call { callee:=.value (.tmp t),args:=args,argTypes:=ats },ty,ps,af,g⟩ fr (dB b):=by
 subst e;exact ZBJ (A:=fun s:List Vx=>[dS ZI s]) (r:=fun s=>dB (q s)) (x:=s) ht ha
theorem ZJN (l:Cx) (vs:List Vx) (A:List Int) (L:List Cx) (h:ZCD l vs A=0) (hfr:ZG6 l L=0) (hF:ZF8 l≤400) (hLs:∀lv∈L,lv.length≤1000) (hS:S->ZEr l) (hne:l≠[]\/S):Fn Tryz.prog 27 [dS (ZSj S) l,dS Lab (vs,A),dS ZFw L] (dI (ZUY l (Zc vs A) L)):=by
 have cB:=ZGG l vs A h;have heul:=ZD7 h;have hck:=(ZAX.1 (ZBI heul).1).2.2.1;have cF:=ZH1 l (Zc vs A) L (ZBI heul).1 fun lv hl=>by have:=hLs lv hl;omega
 rw[hfr] at cF;obtain⟨hL1,hL8,hLok⟩:=ZG7 hfr;obtain⟨f,hf⟩:∃f,Zc vs A=f:=⟨_,rfl⟩;rw[hf] at cB cF ⊢;obtain⟨o,ho⟩:∃o,ZUY l f L=o:=⟨_,rfl⟩;rw[ho];unfold ZUY at ho;obtain⟨V0,hV0⟩:∃V0,ZSe l f 0 [] L=V0:=⟨_,rfl⟩;rw[hV0] at ho;have hLsm:S->∀j (hj:j<L.length),∀s∈L[j],∀v∈s,v.1<100/\v.2<100:=fun q j hj s hs v hv=>by
  obtain⟨x,hx,hsx⟩:=ZRs.1 (hLok j hj s hs).2.2;have:=hS q x hx v (by
   unfold Z8 at hsx;simpa using List.all_eq_true.1 hsx v hv)
  exact⟨this.1.2,this.2.2⟩
 refine zE Tryz.func27 125 ?_;refine ZSl (S:=S) 0 rfl (fun P w v hv=>?_) ?_
 ·rcases hne with hne|hs
  ·exact ZSz hne (fun s hs e=>(Zi.1 (hck s hs)).1 (by rw[e];rfl)) hv
  ·exact .inr hs
 (repeat' (first|(apply zV;exact yF;exact zQ)|refine ZVj ?_|refine ZA fun Kx hK=>?_|(refine hK _ _ ?_;clear hK)|refine ZVk ?_ |  (refine ZWF (dst:=some 7) ZFI (Zj rfl rfl) fun b9=>?_;dsimp only[ZC,z0,z1]) |  (refine ZR ZBx rfl (ZVh rfl) (ZAD (n:=2) (by decide) rfl) ?_;dsimp only[ZC,z0,z1]) |  (refine ZWm kvS ZCT fun bo=>?_;dsimp only[ZC,z0,z1])|(apply zV;(focus ((first|(exact ZV3 (ZVh rfl) (fun I w v h=>ZAL I w v (ZCW I w v h)))|(apply ZVy;exact ZAz;exact ZVh rfl)|(apply ZVy;exact ZBx;exact ZVh rfl)|(apply ZVm cB Tryz.call57;exact ZV9 (ZWD rfl ZCW) (ZV9 (ZVh rfl) ZWJ))|(apply ZVm (cF) Tryz.call67;exact aD)|(apply ZVu;exact ZVh rfl;exact ZB0;exact ZAK.unt)|((first|apply ZVo|apply ZVn|apply ZVq|apply ZV6|apply ZV7|apply ZVv|apply ZVw) <;> exact oD)|(apply ZWG;exact oD;rfl)|(apply ZV3;exact oD;exact hD));all_goals infer_instance));exact zQ)|(apply ZG;exact oD;all_goals (intro h;try exact xD))|refine ZVr ?_|refine ZVp ?_))
 all_goals try exact xO
 (refine ZV4 (X:=Nat × Nat) (fun x=>[(42,dI (x.1:Int)),(10,dX (.map (some x.2))),(6,dA),(11,dA),(12,dA),(13,dA),(15,dA),(16,dA),(17,dA),(19,dA),(21,dA),(23,dA),(43,dA),(44,dA),(45,dA),(46,dA),(47,dA),(48,dA),(49,dA),(50,dA),(51,dA),(52,dA),(53,dA),(54,dA),(55,dA),(56,dA),(57,dA),(58,dA),(59,dA),(60,dA),(61,dA),(62,dA),(63,dA),(64,dA),(65,dA),(66,dA),(67,dA),(68,dA),(69,dA),(70,dA),(71,dA),(72,dA),(73,dA),(74,dA),(75,dA),(76,dA),(77,dA),(78,dA),(79,dA),(80,dA),(81,dA),(82,dA),(83,dA),(84,dA),(85,dA),(86,dA),(87,dA),(88,dA),(89,dA),(90,dA),(91,dA),(92,dA),(93,dA),(94,dA),(95,dA),(96,dA),(97,dA),(98,dA),(99,dA),(100,dA),(101,dA),(102,dA),(103,dA),(104,dA),(105,dA),(106,dA),(107,dA),(108,dA),(109,dA),(110,dA),(111,dA),(112,dA),(113,dA),(114,dA),(115,dA),(116,dA),(117,dA),(118,dA)]) (fun x=>([hM x.2 kvS ZCT (setT txS (ZDE L x.1)),ZIj S])) (fun x=>L.length-x.1) (fun x=>x.1≤L.length/\ZSe l f x.1 (ZDE L x.1) (L.drop x.1)=V0) (0,bo) ?start ?frame0 ?objs0 ?round)
 case start=>exact⟨Nat.zero_le _,hV0⟩
 case frame0=>exact zFr
 case objs0=>rfl
 case round =>
  rintro⟨k,bo⟩ ⟨hk,hE⟩;simp only at hk hE;dsimp only[ZH,z0,z1];have hPo:OkT okS (setT txS (ZDE L k)):=OkT.setT fun s hs=>by
   unfold ZDE at hs;by_cases h0:k=0
   ·rw[if_pos h0] at hs;cases hs
   ·rw[if_neg h0,<- ZF1 (show k-1<L.length by omega)] at hs;exact ZAH (hLok _ _ s hs).1
  by_cases hkl:k<L.length
  ·have hkI:(k:Int)<(L.length:Int):=by omega
   have hk7:k≤7:=by omega
   rw[ZQk hkl] at hE;have hnx:=ZEI hkl;have hok:=hLok k hkl;have hsm:=fun q=>hLsm q k hkl;have hlvl:=hLs _ (List.getElem_mem hkl);have cP:=ZKZ l f (k:Int) ⟨by omega,by omega⟩;have hprev:∀s∈ZDE L k,ZAC s=0:=fun s hs=>by
    unfold ZDE at hs;by_cases h0:k=0
    ·rw[if_pos h0] at hs;cases hs
    ·rw[if_neg h0,<- ZF1 (show k-1<L.length by omega)] at hs;exact(hLok _ _ s hs).1
   obtain⟨lv,hlv⟩:∃lv,L[k]=lv:=⟨_,rfl⟩;rw[hlv] at hE hnx hok hsm hlvl;obtain⟨pv,hpv⟩:∃pv,ZDE L k=pv:=⟨_,rfl⟩;rw[hpv] at hE hPo hprev ⊢;(repeat' (first|(apply zV;exact yF;exact zQ)|refine ZVj ?_|refine ZA fun Kx hK=>?_|(refine hK _ _ ?_;clear hK)|refine ZVk ?_ |  (refine ZWm kvS ZCT fun bi=>?_;dsimp only[ZC,z0,z1])|(apply zV;(focus ((first|(refine Z6 (D:=fun z=>dP 1 false (dS Zh z)) hlv (ZV8 (R:=Zh) (_gR:=inferInstance) (k:=k) ZAK (ZVh rfl) (ZVh rfl) hkl))|((first|apply ZVo|apply ZVn|apply ZVq|apply ZV6|apply ZV7|apply ZVv|apply ZVw) <;> exact oD)|(apply ZVu;exact oD;exact nD;exact uD));all_goals infer_instance));exact zQ)|(apply ZB;exact oD;all_goals (intro h;try exact xD))|refine ZVr ?_|refine ZVp ?_))
   all_goals try exact xO
   refine ZDQ (d':=dS (ZA5 S) lv) 48 (mAt 2 rfl) rfl (fun _ _ _=>gain_S) ?_;dsimp only[z0,z1];(refine ZV4 (X:=Nat) (fun i=>[(50,dI (i:Int)),(6,dA),(15,dA),(16,dA),(17,dA),(19,dA),(51,dA),(52,dA),(53,dA),(54,dA),(55,dA),(56,dA),(57,dA),(58,dA),(59,dA),(60,dA),(61,dA),(62,dA),(63,dA),(64,dA),(65,dA),(66,dA),(67,dA),(68,dA),(69,dA),(70,dA),(71,dA),(72,dA),(73,dA),(74,dA),(75,dA),(76,dA),(77,dA),(78,dA),(79,dA),(80,dA),(81,dA),(82,dA),(83,dA)]) (fun i=>([hM bi kvS ZCT (if k=0 then[] else togL txS (ZT k) (lv.take i)),hM bo kvS ZCT (setT txS pv),ZIj S])) (fun i=>lv.length-i) (fun i=>i≤lv.length/\(lv.take i).all (ZAg f (k:Int))=true) 0 ?start ?frame0 ?objs0 ?round)
   case start=>exact⟨Nat.zero_le _,rfl⟩
   case frame0=>exact zFr
   case objs0=>simp[togL]
   case round =>
    rintro i ⟨hi,hall⟩;dsimp only[ZH,z0,z1];by_cases hil:i<lv.length
    ·have hiI:(i:Int)<(lv.length:Int):=by omega
     obtain⟨hcs,hcl,_⟩:=hok _ (List.getElem_mem hil);cases hp:ZAg f (k:Int) lv[i] with
     | false =>
      have hv:V0=false:=by
       rw[<- hE];unfold ZNY;have:lv.all (ZAg f (k:Int))=false:=by
        cases q:lv.all (ZAg f (k:Int)) with
        | false=>rfl
        | true =>
         have:=List.all_eq_true.1 q _ (List.getElem_mem hil);rw[hp] at this;cases this
       rw[this];rfl
      rw[hv,if_pos rfl] at ho;subst ho;((repeat' (first|refine zS ?_|refine ZA fun Kx hK=>?_|(refine hK _ _ ?_;clear hK)|(apply zV;(focus ((first|(apply ZVy;exact ZBx;exact ZVh rfl)|(apply ZVm (cP) Tryz.call60;exact aD)|(refine ZLG hp (ZVh rfl) ?_;exact ZV9 (ZWD rfl ZNX) ZWJ)|exact yG);all_goals infer_instance));exact zQ)|(apply ZB;exact oD;all_goals (intro h;try exact xD))|(apply ZO;exact oD;all_goals (intro h;try exact xD))|refine ZVr ?_|refine ZVs ?_|refine ZVp ?_|refine ZVz ?_|refine ZWC ?_));all_goals ((repeat clear hK);repeat clear Kx))
      all_goals try exact xO
      (refine⟨trivial,_,rfl,?_⟩;exact fD)
     | true =>
      have hall':(lv.take (i+1)).all (ZAg f (k:Int))=true:=by
       rw[ZAP hil,List.all_append,hall,List.all_cons,hp];rfl
      by_cases hk0:k=0
      ·subst hk0;((repeat' (first|refine zS ?_|refine ZA fun Kx hK=>?_|(refine hK _ _ ?_;clear hK)|(apply zV;(focus ((first|(apply ZVy;exact ZBx;exact ZVh rfl)|(apply ZVm (cP) Tryz.call60;exact aD)|(refine ZLG hp (ZVh rfl) ?_;exact ZV9 (ZWD rfl ZNX) ZWJ)|exact yG);all_goals infer_instance));exact zQ)|(apply ZB;exact oD;all_goals (intro h;try exact xD))|(apply ZO;exact oD;all_goals (intro h;try exact xD))|refine ZVr ?_|refine ZVp ?_|refine ZVx ?_));all_goals ((repeat clear hK);repeat clear Kx))
       all_goals try exact xO
       rw[if_pos rfl];(refine⟨i+1 , ?_,by first|omega|(simp only;omega),by((try simp only);  simp),?_⟩;rotate_left;((try dsimp only[ZH,z0,z1]);repeat (first|exact LeF.nil|refine ZD (k:=?_)));(try dsimp only))
       exact⟨hil,hall'⟩
      ·have hk0I:(k:Int)>0:=by omega
       have hFc:Fn Tryz.prog 68 [dS ZI lv[i],dI (k:Int)] (dT [dS Zh (ZT k lv[i]),dI 0]):=by
        have:=ZIe lv[i] (k:Int);rwa[ZEg hcs (by omega) (by omega)] at this
       have hfc:∀t∈ZT k lv[i],ZAC t=0:=fun t ht=>(ZA7 hcs (by omega) ht).1;have hfs:S->∀t∈ZT k lv[i],∀v∈t,v.1<100/\v.2<100:=fun q t ht v hv=>hsm q _ (List.getElem_mem hil) v (((ZAy _ _ _).1 ht).1.subset hv);have hsn:=ZKv (kx:=txS) (fac:=ZT k) hil;have hM0:OkT okS (togL txS (ZT k) (lv.take i)):=OkT.togL fun s hs t ht=>ZAH (by
        obtain⟨h1,h2,_⟩:=hok s (List.mem_of_mem_take hs);exact(ZA7 h1 (by omega) ht).1)
       have hfl:=ZQY (Zi.1 hcs).2.1 k;rw[if_neg hk0];generalize togL txS (ZT k) (lv.take i)=M0 at *;generalize hfsE:ZT k lv[i]=fs at *;(repeat' (first|refine zS ?_|refine ZA fun Kx hK=>?_|(refine hK _ _ ?_;clear hK)|(apply zV;(focus ((first|(apply ZVy;exact ZBx;exact ZVh rfl)|(apply ZVm (cP) Tryz.call60;exact aD)|(refine ZLG hp (ZVh rfl) ?_;exact ZV9 (ZWD rfl ZNX) ZWJ)|(apply ZVm hFc Tryz.call68;exact ZV9 (ZWD rfl ZNX) (ZV9 (ZVh rfl) ZWJ))|((first|apply ZVo|apply ZVn|apply ZVq|apply ZV6|apply ZV7|apply ZVv|apply ZVw) <;> exact oD)|(apply ZVu;exact oD;exact nD;exact uD)|(apply ZV8;exact eD;exact oD;exact oD;exact kD)|(apply ZWG;exact oD;rfl));all_goals infer_instance));exact zQ)|(apply ZB;exact oD;all_goals (intro h;try exact xD))|(apply ZO;exact oD;all_goals (intro h;try exact xD))|refine ZVr ?_|refine ZVp ?_))
       all_goals try exact xO
       refine ZDQ (d':=dS (ZA5 S) fs) 68 (mAt 2 rfl) rfl (fun _ _ _=>gain_S) ?_;dsimp only[z0,z1];(refine ZV4 (X:=Nat) (fun m=>[(70,dI (m:Int)),(19,dA),(71,dA),(72,dA),(73,dA),(74,dA),(75,dA),(76,dA),(77,dA),(78,dA),(79,dA),(80,dA),(81,dA),(82,dA)]) (fun m=>([hM bi kvS ZCT (ZF9 txS (fs.take m) M0),hM bo kvS ZCT (setT txS pv),ZIj S])) (fun m=>fs.length-m) (fun m=>m≤fs.length) 0 ?start ?frame0 ?objs0 ?round)
       case start=>exact Nat.zero_le _
       case frame0=>exact zFr
       case objs0=>rfl
       case round =>
        rintro m hm;dsimp only[ZH,z0,z1];by_cases hml:m<fs.length
        ·have hmI:(m:Int)<(fs.length:Int):=by omega
         have hcf:=hfc _ (List.getElem_mem hml);have cK:=ZF0 (S:=S) hcf fun q=>hfs q _ (List.getElem_mem hml);have hM1:OkT okS (ZF9 txS (fs.take m) M0):=hM0.togs fun t ht=>ZAH (hfc t (List.mem_of_mem_take ht));have hsn2:=ZQb (kx:=txS) (m:=M0) hml;unfold ZUV at hsn2;generalize ZF9 txS (fs.take m) M0=M1 at *;obtain⟨b1,hb1⟩:∃b1,(lookM M1 (txS fs[m])).getD false=b1:=⟨_,rfl⟩;have hv1:=optB _ hb1;rw[hb1] at hsn2;((repeat' (first|(apply zV;exact yF;exact zQ)|refine ZVj ?_|refine ZA fun Kx hK=>?_|(refine hK _ _ ?_;clear hK)|refine ZVk ?_ |  (refine ZBW (v:=txS fs[m]) (u:=!b1) ZDx ZBa (ZVh rfl) (ZVh rfl) isX (ZVh rfl) isB (ZAH hcf) hM1.ok hM1.nd ?_;dsimp only[ZC,z0,z1])|(apply zV;(focus ((first|(apply ZVm (cK) Tryz.call69;exact aD)|(exact ZDP (Z6 (D:=fun z=>dX z) hv1 (SY.lookM ZDx ZBa (ZVh rfl) (mAt 0 rfl) (ZVh rfl) isX (ZAH hcf) hM1.ok hM1.nd)))|(exact ZVw (ZVh rfl))|exact yG);all_goals infer_instance));exact zQ)|(apply ZB;exact oD;all_goals (intro h;try exact xD))|refine ZVr ?_|refine ZVp ?_|refine ZVx ?_));all_goals ((repeat clear hK);repeat clear Kx))
         all_goals try exact xO
         rw[<- hsn2];(refine zNx (m+1) ?_;(try dsimp only))
         exact hml
        ·have hmI:¬ (m:Int)<(fs.length:Int):=by omega
         obtain rfl:m=fs.length:=by omega
         rw[List.take_length,<- hsn];((repeat' (first|refine zS ?_|refine ZA fun Kx hK=>?_|(refine hK _ _ ?_;clear hK)|(refine ZV0 ?_;clear hK)|(apply zV;exact yG;exact zQ)|(apply ZB;exact oD;all_goals (intro h;try exact xD))|refine ZV1 ?_|refine ZVx ?_));all_goals ((repeat clear hK);repeat clear Kx))
         all_goals try exact xO
         (refine⟨i+1 , ?_,by first|omega|(simp only;omega),by((try simp only);  rw[if_neg hk0]),?_⟩;rotate_left;((try dsimp only[ZH,z0,z1]);repeat (first|exact LeF.nil|refine ZD (k:=?_)));(try dsimp only))
         exact⟨hil,hall'⟩
    ·have hiI:¬ (i:Int)<(lv.length:Int):=by omega
     obtain rfl:i=lv.length:=by omega
     rw[List.take_length] at hall ⊢;unfold ZNY at hE;rw[hall,Bool.true_and] at hE;by_cases hk0:k=0
     ·rw[decide_eq_true hk0,Bool.true_or,Bool.true_and] at hE;rw[if_pos hk0];have hk0I:¬ (k:Int)>0:=by omega
      obtain⟨MI,hMI⟩:∃MI:List (List UInt8 × Bool),[]=MI:=⟨_,rfl⟩;rw[hMI];(repeat' (first|(apply zV;exact yF;exact zQ)|refine ZVj ?_|refine ZA fun Kx hK=>?_|(refine hK _ _ ?_;clear hK)|(refine ZV0 ?_;clear hK)|refine ZVk ?_ |  (refine ZWm kvS ZCT fun bo2=>?_;dsimp only[ZC,z0,z1])|(apply zV;(focus ((first|((first|apply ZVo|apply ZVn|apply ZVq|apply ZV6|apply ZV7|apply ZVv|apply ZVw) <;> exact oD)|(apply ZVu;exact oD;exact nD;exact uD));all_goals infer_instance));exact zQ)|(apply ZB;exact oD;all_goals (intro h;try exact xD))|refine ZVr ?_|refine ZV1 ?_|refine ZVp ?_))
      all_goals try exact xO
      refine ZDQ (d':=dS (ZA5 S) lv) 108 (mAt 3 rfl) rfl (fun _ _ _=>gain_S) ?_;dsimp only[z0,z1];(refine ZV4 (X:=Nat) (fun m=>[(110,dI (m:Int)),(23,dA),(111,dA),(112,dA),(113,dA),(114,dA),(115,dA),(116,dA),(117,dA)]) (fun m=>([hM bo2 kvS ZCT (setT txS (lv.take m)),hM bi kvS ZCT MI,hM bo kvS ZCT (setT txS pv),ZIj S])) (fun m=>lv.length-m) (fun m=>m≤lv.length) 0 ?start ?frame0 ?objs0 ?round)
      case start=>exact Nat.zero_le _
      case frame0=>exact zFr
      case objs0=>rfl
      case round =>
       rintro m hm;dsimp only[ZH,z0,z1];by_cases hml:m<lv.length
       ·have hmI:(m:Int)<(lv.length:Int):=by omega
        obtain⟨hcs,_,_⟩:=hok _ (List.getElem_mem hml);have cK:=ZF0 (S:=S) hcs fun q=>hsm q _ (List.getElem_mem hml);have hM1:OkT okS (setT txS (lv.take m)):=OkT.setT fun s hs=>ZAH (hok s (List.mem_of_mem_take hs)).1;have hsn:=ZHN (kx:=txS) hml;generalize setT txS (lv.take m)=M1 at *;((repeat' (first|(apply zV;exact yF;exact zQ)|refine ZVj ?_|refine ZA fun Kx hK=>?_|(refine hK _ _ ?_;clear hK)|refine ZVk ?_ |  (refine ZBW (v:=txS lv[m]) (u:=true) ZDx ZBa (ZVh rfl) (ZVh rfl) isX ZWE isB (ZAH hcs) hM1.ok hM1.nd ?_;dsimp only[ZC,z0,z1])|(apply zV;(focus ((first|(apply ZVm (cK) Tryz.call69;exact aD)|exact yG);all_goals infer_instance));exact zQ)|(apply ZB;exact oD;all_goals (intro h;try exact xD))|refine ZVr ?_|refine ZVp ?_|refine ZVx ?_));all_goals ((repeat clear hK);repeat clear Kx))
        all_goals try exact xO
        rw[<- hsn];(refine zNx (m+1) ?_;(try dsimp only))
        exact hml
       ·have hmI:¬ (m:Int)<(lv.length:Int):=by omega
        obtain rfl:m=lv.length:=by omega
        rw[List.take_length];refine ZWe (List.Perm.swap _ _ _) (WC.drop (ZWe (List.Perm.swap _ _ _) (WC.drop ?_)));((repeat' (first|refine zS ?_|refine ZA fun Kx hK=>?_|(refine hK _ _ ?_;clear hK)|(refine ZV0 ?_;clear hK)|(apply zV;exact yG;exact zQ)|(apply ZB;exact oD;all_goals (intro h;try exact xD))|refine ZV1 ?_|refine ZVx ?_));all_goals ((repeat clear hK);repeat clear Kx))
        all_goals try exact xO
        rw[<- hnx];(refine zNx (k+1,bo2) ?_;(try dsimp only))
        exact⟨hkl,hE⟩
     ·rw[decide_eq_false hk0,Bool.false_or] at hE;rw[if_neg hk0];have hk0I:(k:Int)>0:=by omega
      have hMIo:OkT okS (togL txS (ZT k) lv):=OkT.togL fun s hs t ht=>ZAH (by
       obtain⟨h1,h2,_⟩:=hok s hs;exact(ZA7 h1 (by omega) ht).1)
      have hlkI:∀g,ZAC g=0->(lookM (togL txS (ZT k) lv) (txS g)).getD false=ZPw (ZT k) lv g:=fun g hg =>
       ZSU (fun s hs=>ZIC (Zi.1 (hok s hs).1).2.2.2 k) fun s hs t ht e=>ZFr (by
        obtain⟨h1,h2,_⟩:=hok s hs;exact(ZA7 h1 (by omega) ht).1) hg e
      have hlkO:∀g,ZAC g=0->(lookM (setT txS pv) (txS g)).getD false=ZS3 pv g:=fun g hg =>
       ZSN fun s hs e=>ZFr (hprev s hs) hg e
      obtain⟨MI,hMI⟩:∃MI,togL txS (ZT k) lv=MI:=⟨_,rfl⟩;rw[hMI] at hMIo hlkI ⊢;have cC:=ZJ3 l f k (by omega);obtain⟨F,hFe⟩:∃F,ZCk l (k:Int) (ZF6 f (((2 ^ k:Nat):Int)-1))=F:=⟨_,rfl⟩;have cF2:=ZJG l f (k:Int) (ZF6 f (((2 ^ k:Nat):Int)-1)) (ZKr heul (by omega));have hFc:∀s∈F,ZAC s=0:=fun s hs=>by rw[<- hFe] at hs;exact(ZEl heul (by omega) (by omega) hs).1
      have hFs:S->∀s∈F,∀v∈s,v.1<100/\v.2<100:=fun q s hs=>by rw[<- hFe] at hs;exact ZEK heul (by omega) (by omega) hS hs q
      have hFl:F.length≤1000:=by rw[<- hFe];have:=ZDc (q:=ZF6 f (((2 ^ k:Nat):Int)-1)) heul (k:=k) (by omega) (by omega);omega
      rw[hFe] at hE cF2;(repeat' (first|refine zS ?_|refine WD.nil ?_|refine ZA fun Kx hK=>?_|(refine hK _ _ ?_;clear hK)|(refine ZV0 ?_;clear hK)|(apply ZWB;kernel_rfl;kernel_rfl)|((first|apply ZVi|apply ZVl);(focus ((first|(apply ZVy;exact ZBx;exact ZVh rfl)|(apply ZVm (cC) Tryz.call70;exact aD)|(apply ZVm (cF2) Tryz.call59;exact aD)|((first|apply ZVo|apply ZVn|apply ZVq|apply ZV6|apply ZV7|apply ZVv|apply ZVw) <;> exact oD)|(apply ZVu;exact oD;exact nD;exact uD)|fail);all_goals infer_instance));dsimp only[ZC,z0,z1])|(apply ZB;exact oD;all_goals (intro h;try exact xD))|refine ZV1 ?_|refine ZVp ?_))
      all_goals try exact xO
      refine ZDQ (d':=dS (ZA5 S) F) 91 (mAt 2 rfl) rfl (fun _ _ _=>gain_S) ?_;dsimp only[z0,z1];(refine ZV4 (X:=Nat) (fun m=>[(93,dI (m:Int)),(6,dA),(21,dA),(94,dA),(95,dA),(96,dA),(97,dA),(98,dA),(99,dA),(100,dA),(101,dA),(102,dA),(103,dA),(104,dA),(105,dA),(106,dA)]) (fun m=>([hM bi kvS ZCT MI,hM bo kvS ZCT (setT txS pv),ZIj S])) (fun m=>F.length-m) (fun m=>m≤F.length/\(((F.drop m).all fun g=>ZPw (ZT k) lv g == ZS3 pv g) && ZSe l f (k+1) (ZDE L (k+1)) (L.drop (k+1)))=V0) 0 ?start ?frame0 ?objs0 ?round)
      case start=>exact⟨Nat.zero_le _,hE⟩
      case frame0=>exact zFr
      case objs0=>rfl
      case round =>
       rintro m ⟨hm,hE2⟩;dsimp only[ZH,z0,z1];by_cases hml:m<F.length
       ·have hmI:(m:Int)<(F.length:Int):=by omega
        have hc:=hFc _ (List.getElem_mem hml);have cK:=ZF0 (S:=S) hc fun q=>hFs q _ (List.getElem_mem hml);have hv1:=optB _ (hlkI _ hc);have hv2:=optB _ (hlkO _ hc);rw[List.drop_eq_getElem_cons hml,List.all_cons] at hE2;obtain⟨b1,hb1⟩:∃b1,ZPw (ZT k) lv F[m]=b1:=⟨_,rfl⟩;obtain⟨b2,hb2⟩:∃b2,ZS3 pv F[m]=b2:=⟨_,rfl⟩;rw[hb1] at hv1;rw[hb2] at hv2;rw[hb1,hb2] at hE2;cases hbb:(b1 != b2) with
        | true =>
         have hbe:(b1 == b2)=false:=by cases b1 <;> cases b2 <;> simp_all
         rw[hbe,Bool.false_and,Bool.false_and] at hE2;rw[<- hE2,if_pos rfl] at ho;subst ho;((repeat' (first|refine zS ?_|refine WD.nil ?_|refine ZA fun Kx hK=>?_|(refine hK _ _ ?_;clear hK)|(apply ZWB;kernel_rfl;kernel_rfl)|((first|apply ZVi|apply ZVl);(focus ((first|(apply ZVm (cK) Tryz.call69;exact aD)|(exact ZDP (Z6 (D:=fun z=>dX z) hv1 (SY.lookM ZDx ZBa (ZVh rfl) (mAt 0 rfl) (ZVh rfl) isX (ZAH hc) hMIo.ok hMIo.nd)))|(exact ZDP (Z6 (D:=fun z=>dX z) hv2 (SY.lookM ZDx ZBa (ZVh rfl) (mAt 1 rfl) (ZVh rfl) isX (ZAH hc) hPo.ok hPo.nd)))|(exact ZEq hbb (ZVh rfl) (ZVh rfl))|exact yG|fail);all_goals infer_instance));dsimp only[ZC,z0,z1])|(apply Zf;exact oD;(with_reducible rfl))|(apply ZB;exact oD;all_goals (intro h;try exact xD))|refine ZVr ?_|refine ZVs ?_|refine ZVp ?_|refine ZVz ?_|refine ZWC ?_));all_goals ((repeat clear hK);repeat clear Kx))
         all_goals try exact xO
         (refine⟨trivial,_,rfl,?_⟩;exact fD)
        | false =>
         have hbe:(b1 == b2)=true:=by cases b1 <;> cases b2 <;> simp_all
         rw[hbe,Bool.true_and] at hE2;((repeat' (first|refine zS ?_|refine WD.nil ?_|refine ZA fun Kx hK=>?_|(refine hK _ _ ?_;clear hK)|(apply ZWB;kernel_rfl;kernel_rfl)|((first|apply ZVi|apply ZVl);(focus ((first|(apply ZVm (cK) Tryz.call69;exact aD)|(exact ZDP (Z6 (D:=fun z=>dX z) hv1 (SY.lookM ZDx ZBa (ZVh rfl) (mAt 0 rfl) (ZVh rfl) isX (ZAH hc) hMIo.ok hMIo.nd)))|(exact ZDP (Z6 (D:=fun z=>dX z) hv2 (SY.lookM ZDx ZBa (ZVh rfl) (mAt 1 rfl) (ZVh rfl) isX (ZAH hc) hPo.ok hPo.nd)))|(exact ZEq hbb (ZVh rfl) (ZVh rfl))|exact yG|fail);all_goals infer_instance));dsimp only[ZC,z0,z1])|(apply ZQ;exact oD;(with_reducible rfl))|(apply ZB;exact oD;all_goals (intro h;try exact xD))|refine ZVr ?_|refine ZVp ?_|refine ZVx ?_));all_goals ((repeat clear hK);repeat clear Kx))
         all_goals try exact xO
         (refine zNx (m+1) ?_;(try dsimp only))
         exact⟨hml,hE2⟩
       ·have hmI:¬ (m:Int)<(F.length:Int):=by omega
        rw[List.drop_of_length_le (by omega)] at hE2;rw[List.all_nil,Bool.true_and] at hE2;have hE:=hE2;(repeat' (first|(apply zV;exact yF;exact zQ)|refine ZVj ?_|refine ZA fun Kx hK=>?_|(refine hK _ _ ?_;clear hK)|(refine ZV0 ?_;clear hK)|refine ZVk ?_ |  (refine ZWm kvS ZCT fun bo2=>?_;dsimp only[ZC,z0,z1])|(apply zV;(focus ((first|((first|apply ZVo|apply ZVn|apply ZVq|apply ZV6|apply ZV7|apply ZVv|apply ZVw) <;> exact oD)|(apply ZVu;exact oD;exact nD;exact uD));all_goals infer_instance));exact zQ)|(apply ZB;exact oD;all_goals (intro h;try exact xD))|refine ZV1 ?_|refine ZVp ?_))
        all_goals try exact xO
        refine ZDQ (d':=dS (ZA5 S) lv) 108 (mAt 3 rfl) rfl (fun _ _ _=>gain_S) ?_;dsimp only[z0,z1];(refine ZV4 (X:=Nat) (fun m=>[(110,dI (m:Int)),(23,dA),(111,dA),(112,dA),(113,dA),(114,dA),(115,dA),(116,dA),(117,dA)]) (fun m=>([hM bo2 kvS ZCT (setT txS (lv.take m)),hM bi kvS ZCT MI,hM bo kvS ZCT (setT txS pv),ZIj S])) (fun m=>lv.length-m) (fun m=>m≤lv.length) 0 ?start ?frame0 ?objs0 ?round)
        case start=>exact Nat.zero_le _
        case frame0=>exact zFr
        case objs0=>rfl
        case round =>
         rintro m hm;dsimp only[ZH,z0,z1];by_cases hml:m<lv.length
         ·have hmI:(m:Int)<(lv.length:Int):=by omega
          obtain⟨hcs,_,_⟩:=hok _ (List.getElem_mem hml);have cK:=ZF0 (S:=S) hcs fun q=>hsm q _ (List.getElem_mem hml);have hM1:OkT okS (setT txS (lv.take m)):=OkT.setT fun s hs=>ZAH (hok s (List.mem_of_mem_take hs)).1;have hsn:=ZHN (kx:=txS) hml;generalize setT txS (lv.take m)=M1 at *;((repeat' (first|(apply zV;exact yF;exact zQ)|refine ZVj ?_|refine ZA fun Kx hK=>?_|(refine hK _ _ ?_;clear hK)|refine ZVk ?_ |  (refine ZBW (v:=txS lv[m]) (u:=true) ZDx ZBa (ZVh rfl) (ZVh rfl) isX ZWE isB (ZAH hcs) hM1.ok hM1.nd ?_;dsimp only[ZC,z0,z1])|(apply zV;(focus ((first|(apply ZVm (cK) Tryz.call69;exact aD)|exact yG);all_goals infer_instance));exact zQ)|(apply ZB;exact oD;all_goals (intro h;try exact xD))|refine ZVr ?_|refine ZVp ?_|refine ZVx ?_));all_goals ((repeat clear hK);repeat clear Kx))
          all_goals try exact xO
          rw[<- hsn];(refine zNx (m+1) ?_;(try dsimp only))
          exact hml
         ·have hmI:¬ (m:Int)<(lv.length:Int):=by omega
          obtain rfl:m=lv.length:=by omega
          rw[List.take_length];refine ZWe (List.Perm.swap _ _ _) (WC.drop (ZWe (List.Perm.swap _ _ _) (WC.drop ?_)));((repeat' (first|refine zS ?_|refine ZA fun Kx hK=>?_|(refine hK _ _ ?_;clear hK)|(refine ZV0 ?_;clear hK)|(apply zV;exact yG;exact zQ)|(apply ZB;exact oD;all_goals (intro h;try exact xD))|refine ZV1 ?_|refine ZVx ?_));all_goals ((repeat clear hK);repeat clear Kx))
          all_goals try exact xO
          rw[<- hnx];(refine zNx (k+1,bo2) ?_;(try dsimp only))
          exact⟨hkl,hE⟩
  ·have hkI:¬ (k:Int)<(L.length:Int):=by omega
   obtain rfl:k=L.length:=by omega
   rw[List.drop_length] at hE;have hv:V0=true:=hE.symm;subst hv;rw[if_neg (by decide)] at ho;have hL0:0<L.length:=by omega
   have el0:=ZF1 hL0;obtain⟨l0,hl0e⟩:∃l0,L.getD 0 []=l0:=⟨_,rfl⟩;rw[hl0e] at el0 ho;have hll:=hLs _ (List.getElem_mem hL0);rw[el0] at hll;by_cases h2:(l0.length:Int).tmod 2=0
   ·rw[if_pos h2] at ho;subst ho;((repeat' (first|refine zS ?_|refine ZA fun Kx hK=>?_|(refine hK _ _ ?_;clear hK)|(refine ZV0 ?_;clear hK)|(apply zV;(focus ((first|(refine Z6 (D:=fun z=>dP 1 false (dS Zh z)) el0 (ZV8 (R:=Zh) (_gR:=inferInstance) (k:=0) ZAK (ZVh rfl) ZV5 hL0))|(exact ZWa (ZVh rfl) ZV5 (by decide))|exact yG);all_goals infer_instance));exact zQ)|(apply ZB;exact oD;all_goals (intro h;try exact xD))|refine ZVs ?_|refine ZV1 ?_|refine ZVz ?_));all_goals ((repeat clear hK);repeat clear Kx))
    all_goals try exact xO
    (refine⟨trivial,_,rfl,?_⟩;exact fD)
   ·rw[if_neg h2] at ho;subst ho;((repeat' (first|refine zS ?_|refine ZA fun Kx hK=>?_|(refine hK _ _ ?_;clear hK)|(refine ZV0 ?_;clear hK)|(apply zV;(focus ((first|(refine Z6 (D:=fun z=>dP 1 false (dS Zh z)) el0 (ZV8 (R:=Zh) (_gR:=inferInstance) (k:=0) ZAK (ZVh rfl) ZV5 hL0))|(exact ZWa (ZVh rfl) ZV5 (by decide))|exact yG);all_goals infer_instance));exact zQ)|(apply ZB;exact oD;all_goals (intro h;try exact xD))|refine ZVr ?_|refine ZVs ?_|refine ZV1 ?_));all_goals ((repeat clear hK);repeat clear Kx))
    all_goals try exact xO
    (refine⟨trivial,_,rfl,?_⟩;exact fD)
end
section
open Go.RowKit
theorem ZQ8 {ops:Array Oper} {hp:List HObj} {fr:List Dat} {dst:Option Tmp} {ty:TypeId} {ps:String} {af:Array Edge} {g:Option (Nat × Bool)} {x y:Operand} {vs:List Vx} {xs:Cx} (hx:OpD fr x (dS ZI vs)) (hy:OpD fr y (dS Zh xs)):SY Tryz.prog ops hp ⟨dst,.build 46 #[(1,x),(2,y)],ty,ps,af,g⟩ fr (ZEN [dX (.slice none 0 0),dS ZI vs,dS Zh xs]):=ZWK fun {I w a} ho=>by
 have h3:ArrK 2 RV I w (a.eval x) vs:=hx.get (by simp[Op.operands]) ho;have h2:Arr ZI I w (a.eval y) xs:=hy.get (by simp[Op.operands]) ho;have h2':=h2;obtain⟨ad,c,hv,_⟩:=h2';have h3':=h3;obtain⟨ad2,c2,hv2,_⟩:=h3';have hm:∀ad n c ad2 n2 c2 w,(Instr.build 46 #[(1,.slice ad2 n2 c2),(2,.slice ad n c)]).run Tryz.prog w = .ok (.agg #[.slice none 0 0,.slice ad2 n2 c2,.slice ad n c]) w:=by intro ad n c ad2 n2 c2 w;go_simp
 refine⟨.agg #[.slice none 0 0,.slice ad2 vs.length c2,.slice ad xs.length c],?_,[_,_,_],rfl,rfl,by simp[Value.oneCell'],fun k c d hc hd=>?_⟩
 ·unfold execOp;simp only[List.map_toArray,List.map_cons,List.map_nil,hv,hv2,Sem.run_bind,hm,Result.andThen_ok,Sem.run_pure]
 ·match k,hc,hd with
  | 0,hc,hd=>cases hc;cases hd;rfl
  | 1,hc,hd=>cases hc;cases hd;rw[hv2] at h3;exact h3
  | 2,hc,hd=>cases hc;cases hd;rw[hv] at h2;exact h2
section
variable {P:Program} {ops:Array Oper} {hp:List HObj} {fr:List Dat} {Q:Z4} {rest:List Oper} {T:TypeId} {b:Nat}
theorem ZM5 {zs:List Value} (hn:0<zs.length) (h1:∀c∈zs,c.oneCell'=true) (h:WL P ops Q rest fr (ZAV b T (zs.map dX)::hp)):WL P ops Q rest fr (Zm b T zs.length true (dX (.agg zs.toArray))::hp):=WL.of fun P0 B w0 w a hh hf=>by
 obtain⟨cs,u,c1,c2,c0,c3,c4,c5⟩:=hh.ok (Zm b T zs.length true (dX (.agg zs.toArray))) (by simp);have hu:u = .agg zs.toArray:=c5;simp only[if_true] at c4;rw[hu] at c4;have hcs:zs=cs:=by injection c4 with c4;exact List.toArray_inj c4
 subst hcs;have hgr:w.grownBy w (Zm b T zs.length true (dX (.agg zs.toArray))).blk:=⟨rfl,rfl,rfl,Nat.le_refl _,fun _ _ _=>rfl⟩;have hok:(ZAV b T (zs.map dX)).ok (fun k=>Imm P0 B (Zm b T zs.length true (dX (.agg zs.toArray))::hp) k/\k<w.heap.size) w :=
  ⟨zs,c1,by simp,h1,fun k c d hc hd=>by
   rw[List.getElem?_map,hc] at hd;cases hd;rfl⟩
 exact h.on (hh.write hgr (.inl rfl) hok) (hf.mono fun _ _ hd=>Zd (o':=ZAV b T (zs.map dX)) hgr (.inl rfl) hd)
end
theorem ZNh {P:Program} {fn:Func} {t t2:Tmp} {T:TypeId} {n:Nat} {agg:Bool} (T':TyI P T n agg) (hr:fn.results=#[.tmp t2,.cell t T]) {I:Nat->Prop} {w:World} {tmps:Array Value} {b off:Nat} {u:Value} (hp:tmps.getD t undef = .pointer (some ⟨b,off,none⟩)) (h:Cells I w b off n agg u):(results fn tmps).run P w = .ok (.tuple #[tmps.getD t2 undef,u]) w:=by
 have h1:=ZD0 T' h;have hp':tmps[t]?.getD undef = .pointer (some ⟨b,off,none⟩):=by simpa using hp
 simp[results,hr,hp',asAddr,h1]
theorem ZMv {P:Program} {f:FuncId} {fn:Func} {c:Code} {args:List Dat} {r s:Dat} {t t2:Tmp} {T:TypeId} {n:Nat} {agg:Bool} (T':TyI P T n agg) (hf:P.funcs[f]?=some fn) (hb:fn.body=some c) (hr:fn.results=#[.tmp t2,.cell t T])
  (h:WC P (ZU8 t t2 n agg r s) c (args++List.replicate (fn.ntmps-args.length) (dX undef)) []):Fn P f args (dT [s,r]) :=
 ZBr hf hb (fun e fr hp q=>by
  obtain⟨he,⟨d,hd,hfin⟩,d',hd',hfin'⟩:=q;refine⟨by cases e <;> simp_all,fun {P0 B w0 w a} hh hf'=>?_⟩;obtain⟨b,off,u,h1,h2,h3⟩:=hf'.rd t _ hd;refine⟨_,ZNh T' hr h1 h2,[a.tmps.getD t2 undef,u],rfl,rfl,fun i e x he hx=>?_⟩
  match i,he,hx with
  | 0,he,hx=>cases he;cases hx;exact hfin'.out hh (hf'.rd t2 d' hd')
  | 1,he,hx=>cases he;cases hx;exact hfin.out hh h3) h
abbrev eB:List Vx:=[(0,0),(1,0)]
abbrev eV:List Vx:=[(0,1),(0,3),(1,2),(1,3)]
abbrev eF:Cx:=[[(0,1),(1,3)],[(0,3),(1,2)],[(0,3),(1,3)]]
abbrev eC:Cx:=[[(0,0)],[(0,0),(1,0)],[(1,0)],[(0,0),(1,0)]]

theorem ZRl:Fn Tryz.prog 33 [] (dT [dS ZI eB,dS ZUt (eF,eV,eC)]):=by
 refine ZMv ZQy Tryz.func33 rfl rfl ?_;show WC _ _ _ (List.replicate 48 (dX undef)) [];simp only[List.replicate_succ,List.replicate_zero];((repeat' (first |  (refine WC.drawM (fun _=>True) 10 1 [(0,false),(1,false),(2,false),(3,false),(4,false),(5,false),(6,false),(7,false),(8,false),(9,true)] [true,true,true,true,true,true,true,true,true,true,false] (by kernel_rfl) (by kernel_rfl) (by kernel_rfl) rfl (trivial) ?_) |  (first|refine WA.one (S:=[true,true,true,true,true,true,true,true,true,true,false]) (i:=10) (by kernel_rfl) rfl ?_|refine WA.nil (S:=[true,true,true,true,true,true,true,true,true,true,true]) (by kernel_rfl) ?_) |  (refine WC.drawM (fun _=>True) 24 1 [(0,false),(1,false),(2,false),(3,false),(4,false),(5,false),(6,false),(7,false),(8,false),(9,false),(10,false),(11,false),(12,false),(13,false),(14,false),(15,false),(16,false),(17,false),(18,false),(19,false),(20,false),(21,false),(22,false),(23,false)] [true,true,true,true,true,true,true,true,true,true,true,true,true,true,true,true,true,true,true,true,true,true,true,true,false] (by kernel_rfl) (by kernel_rfl) (by kernel_rfl) rfl (trivial) ?_) |  (first|refine WA.one (S:=[true,true,true,true,true,true,true,true,true,true,true,true,true,true,true,true,true,true,true,true,true,true,true,true,false]) (i:=24) (by kernel_rfl) rfl ?_|refine WA.nil (S:=[true,true,true,true,true,true,true,true,true,true,true,true,true,true,true,true,true,true,true,true,true,true,true,true,true]) (by kernel_rfl) ?_) |  (refine WC.drawM (fun hp'=>ZAV b4 46 [dS Zh eF,dS ZI eV,dS Zh eC]∈hp') 3 1 [(0,false),(1,false),(2,false)] [true,true,true,false] (by kernel_rfl) (by kernel_rfl) (by kernel_rfl) rfl (.head _) ?_) |  (first|refine WA.one (S:=[true,true,true,false]) (i:=3) (by kernel_rfl) rfl ?_|refine WA.nil (S:=[true,true,true,true]) (by kernel_rfl) ?_) |  (refine ZBX rfl (SW.alloc tzSb (ZJF rfl rfl rfl)) (fun _=>trivial) fun b4=>?_;dsimp only[ZC,z0,z1])|(refine WM.nil ?_)|(apply WM.readL rfl;(focus (intro c hcc;apply ZVt;(exact ZY rfl);((first|(exact ZQ8 (ZVh rfl) (ZVh rfl))|(exact ZL5 (R:=RV) (_gR:=inferInstance) elV (ZVh rfl) ZV5 1 rfl (by decide))|(exact ZGB (R:=RV) (_gR:=inferInstance) elV (ZVh rfl) ZV5 1 rfl (by decide))|(exact ZBK (R:=RV) (_gR:=inferInstance) (xs:=eV) (k:=0) (v:=(0,1)) elV (by decide) rfl (ZVh rfl) ZV5)|(exact ZBK (R:=RV) (_gR:=inferInstance) (xs:=eV) (k:=1) (v:=(0,3)) elV (by decide) rfl (ZVh rfl) ZV5)|(exact ZBK (R:=RV) (_gR:=inferInstance) (xs:=eV) (k:=2) (v:=(1,2)) elV (by decide) rfl (ZVh rfl) ZV5)|(exact ZBK (R:=RV) (_gR:=inferInstance) (xs:=eV) (k:=3) (v:=(1,3)) elV (by decide) rfl (ZVh rfl) ZV5)|(refine ZAl ZJK (ZVh rfl) (by decide))|(apply ZTN ZNz;exact ZVh rfl)|(refine ZDN ZQy (ZVh rfl) hcc (by decide) rfl)|((first|apply ZVo|apply ZVn) <;> exact oD)|(apply ZVy;exact tD;exact oD)|(apply ZWg;exact eD;((try simp only[List.map_cons,List.map_nil]);(repeat (first|exact Zr|(apply Zp;(first|exact ZVh rfl|exact ZV5|exact ZWE|exact ZWD rfl (by first|exact ZN|exact ZJ (by decide))|exact⟨ZN⟩|exact⟨ZJ (by decide)⟩)))));rfl;rfl;decide;(intro _;exact ZBA);(exact(by simp)))|(apply ZWb;exact eD;((try simp only[List.map_cons,List.map_nil]);(repeat (first|exact Zr|(apply Zp;(first|exact ZVh rfl|exact ZV5|exact ZWE|exact ZWD rfl (by first|exact ZN|exact ZJ (by decide))|exact⟨ZN⟩|exact⟨ZJ (by decide)⟩)))));rfl;rfl;(intro _;first|exact ZAd|exact ZAS|exact ZAI|exact shape_B);(exact(by simp)))|fail);all_goals infer_instance)));dsimp only[ZC,z0,z1])|((first|apply ZVi|apply ZVl);exact yF;dsimp only[ZC,z0,z1])|refine ZVj ?_|refine ZA fun Kx hK=>?_|(refine hK _ _ ?_;clear hK)|refine ZVk ?_ |  (refine ZWF (dst:=some 1) tzSb (ZJF rfl rfl rfl) fun b1=>?_;dsimp only[ZC,z0,z1]) |  (refine ZM5 (zs:=[.slice none 0 0,.slice none 0 0,.slice none 0 0]) (by decide) (by simp[Value.oneCell']) (ZBs ZQy (ZVh rfl) (ZVh rfl) rfl rfl ?_);dsimp only[ZC,z0,z1]) |  (refine WL.storeS (k:=0) ZQx (ZVh rfl) (ZVh rfl) ZAI (by decide) ?_;dsimp only[ZC,z0,z1]) |  (refine ZWP (List.Perm.swap _ _ _) (ZR ZQy rfl (ZVh rfl) (ZAD (n:=3) (by decide) rfl) ?_);dsimp only[ZC,z0,z1])|((first|apply ZVi|apply ZVl);(focus ((first|(first|(apply SY.fld0 vxT <;> exact oD)|(apply SY.fld1 vxT <;> exact oD)|(apply ZTR vxT <;> exact oD)|(apply SY.mkV1 vxT <;> exact oD)|(apply ZUr vxT <;> exact oD))|(apply ZWg;exact eD;((try simp only[List.map_cons,List.map_nil]);(repeat (first|exact Zr|(apply Zp;(first|exact ZVh rfl|exact ZV5|exact ZWE|exact ZWD rfl (by first|exact ZN|exact ZJ (by decide))|exact⟨ZN⟩|exact⟨ZJ (by decide)⟩)))));rfl;rfl;decide;(intro _;exact ZBA);(exact(by simp)))|fail);all_goals infer_instance));dsimp only[ZC,z0,z1])|refine ZVs ?_));all_goals ((repeat clear hK);repeat clear Kx))
 all_goals try exact xO
 exact⟨trivial,⟨_,rfl,ZWR ZUw⟩,_,rfl,ZWR (ZWI _)⟩
end
section
open Go.RowKit

theorem two9D:∀k:Fin 9,ZRt 1 (k.val:Int)=((2 ^ k.val:Nat):Int):=by decide +kernel
def ZKS (base c:List Vx):Nat->Int
 | 0=>0
 | k+1=>if base.getD k (0,0)∈c then ior (ZKS base c k) ((2 ^ k:Nat):Int) else ZKS base c k
abbrev ZIt (base c:List Vx):Int:=ZKS base c base.length
theorem ZRy {base c:List Vx} {k:Nat} (h:k<base.length):ZKS base c (k+1)=if base[k]∈c then ior (ZKS base c k) ((2 ^ k:Nat):Int) else ZKS base c k:=by
 show(if base.getD k (0,0)∈c then _ else _)=_;rw[show base.getD k (0,0)=base[k] by simp[List.getD_eq_getElem?_getD,h]]
def ZVY (F:Cx) (V:List Vx) (C:Cx) (base:List Vx):(List Vx × List Int) × Int :=
 if ZAC base≠0 then(([],[]),ZAC base) else if ZDo (okP [base] V C) [base] F V C≠0 then(([],[]),ZDo (okP [base] V C) [base] F V C) else((V,C.map (ZIt base)),0)
theorem ZVL (w:World):(Instr.build 25 #[]).run Tryz.prog w = .ok (.agg #[.slice none 0 0,.slice none 0 0]) w:=by go_simp
theorem ZL3 {ops:Array Oper} {hp:List HObj} {fr:List Dat} {dst:Option Tmp} {ty:TypeId} {ps:String} {af:Array Edge} {g:Option (Nat × Bool)}:SY Tryz.prog ops hp ⟨dst,.build 25 #[],ty,ps,af,g⟩ fr (dX (.agg #[.slice none 0 0,.slice none 0 0])):=ZWK fun {I w a} ho=>by
 refine⟨_,?_,rfl⟩;unfold execOp;simp only[List.map_toArray,List.map_nil,Sem.run_bind,ZVL,Result.andThen_ok,Sem.run_pure]
theorem ZS0:(dX (.agg #[.slice none 0 0,.slice none 0 0])).le (dS Lab (([]:List Vx),([]:List Int))):=fun _ _ _ h=>by
 cases (h:_=_);exact⟨_,_,rfl,rfl,rfl,ZGZ (by decide),ZB5⟩
theorem ZLn (F:Cx) (V:List Vx) (C:Cx) (base:List Vx) (hF:F.length≤100) (hC:C.length≤100) (hV:V.length≤1000):Fn Tryz.prog 20 [dS ZUt (F,V,C),dS ZI base] (dT [dS Lab (ZVY F V C base).1,dI (ZVY F V C base).2]):=by
 have c1:=ZNF base;have c2:=ZTe [base] F V C hF hC;obtain⟨R,hR⟩:∃R,ZVY F V C base=R:=⟨_,rfl⟩;rw[hR];unfold ZVY at hR;refine ZCv ZAz Tryz.func20 rfl rfl ?_
 -- @kinds sperner.Sperner
 simp only[Tryz.ntmps20,List.length_cons,List.length_nil,Nat.reduceAdd,Nat.reduceSub,List.replicate_succ,List.replicate_zero,List.cons_append,List.nil_append];by_cases h1:ZAC base≠0
 ·rw[if_pos h1] at hR;subst hR;((repeat' (first|(apply zV;exact yF;exact zQ)|refine ZVj ?_|refine ZA fun Kx hK=>?_|(refine hK _ _ ?_;clear hK)|refine ZVk ?_ |  (refine ZWF (dst:=some 4) ZTD (ZBd rfl rfl) fun b4=>?_;dsimp only[ZC,z0,z1]) |  (refine ZR ZAz rfl (ZVh rfl) (ZBd rfl rfl) ?_;dsimp only[ZC,z0,z1])|(apply zV;(focus ((first|(exact ZV3 (ZVh rfl) ZCB)|(apply ZVm (c1) Tryz.call39;exact aD)|exact ZL3|exact yG);all_goals infer_instance));exact zQ)|(apply ZG;exact oD;all_goals (intro h;try exact xD))|refine ZVs ?_|refine ZVz ?_));all_goals ((repeat clear hK);repeat clear Kx))
  all_goals try exact xO
  exact⟨trivial,⟨_,rfl,ZWR ZS0⟩,_,rfl,ZWR (ZWI _)⟩
 rw[if_neg h1] at hR;have h1':ZAC base=0:=Classical.byContradiction h1;rw[h1'] at c1;by_cases h2:ZDo (okP [base] V C) [base] F V C≠0
 ·rw[if_pos h2] at hR;subst hR;((repeat' (first|(apply zV;exact yF;exact zQ)|refine ZVj ?_|refine ZA fun Kx hK=>?_|(refine hK _ _ ?_;clear hK)|refine ZVk ?_ |  (refine ZWF (dst:=some 4) ZTD (ZBd rfl rfl) fun b4=>?_;dsimp only[ZC,z0,z1]) |  (refine ZR ZAz rfl (ZVh rfl) (ZBd rfl rfl) ?_;dsimp only[ZC,z0,z1])|(apply zV;(focus ((first|(exact ZV3 (ZVh rfl) ZCB)|(apply ZVm (c1) Tryz.call39;exact aD)|(apply ZVm (c2) Tryz.call51;exact aD)|exact ZL3|(apply ZVy;exact ZQy;exact ZVh rfl)|exact yG|(apply ZSk ZNz;exact ZVh rfl)|(apply ZWb;exact eD;((try simp only[List.map_cons,List.map_nil]);(repeat (first|exact Zr|(apply Zp;(first|exact ZVh rfl|exact ZV5|exact ZWE|exact ZWD rfl (by first|exact ZN|exact ZJ (by decide))|exact⟨ZN⟩|exact⟨ZJ (by decide)⟩)))));rfl;rfl;(intro _;first|exact ZAd|exact ZAS|exact ZAI|exact shape_B);(exact(by simp))));all_goals infer_instance));exact zQ)|(apply ZG;exact oD;all_goals (intro h;try exact xD))|refine ZVr ?_|refine ZVs ?_|refine ZVz ?_));all_goals ((repeat clear hK);repeat clear Kx))
  all_goals try exact xO
  exact⟨trivial,⟨_,rfl,ZWR ZS0⟩,_,rfl,ZWR (ZWI _)⟩
 rw[if_neg h2] at hR;have h2':ZDo (okP [base] V C) [base] F V C=0:=Classical.byContradiction h2;rw[h2'] at c2;subst hR;have h8:base.length≤8:=(Zi.1 h1').2.1;have cCl:=ZIZ V hV;(repeat' (first|(apply zV;exact yF;exact zQ)|refine ZVj ?_|refine ZA fun Kx hK=>?_|(refine hK _ _ ?_;clear hK)|refine ZVk ?_ |  (refine ZWF (dst:=some 4) ZTD (ZBd rfl rfl) fun b4=>?_;dsimp only[ZC,z0,z1]) |  (refine ZC0 (dst:=some 8) (zs:=[.slice none 0 0,.slice none 0 0]) ZTD (by decide) (by simp[Value.oneCell']) fun b8=>?_;dsimp only[ZC,z0,z1,List.map_cons,List.map_nil]) |  (refine ZBs ZAz (ZVh rfl) (ZVh rfl) rfl rfl ?_;dsimp only[ZC,z0,z1])|(apply zV;(focus ((first|(exact ZV3 (ZVh rfl) ZCB)|(apply ZVm (c1) Tryz.call39;exact aD)|(apply ZVm (c2) Tryz.call51;exact aD)|(apply ZVy;exact ZQy;exact ZVh rfl)|(refine ZW ZJK (ZVh rfl) ZFx rfl rfl)|(apply ZVm (cCl) Tryz.call47;exact aD)|(exact ZTP (ZVh rfl))|((first|apply ZVo|apply ZVn|apply ZVq|apply ZVv|apply SY.or) <;> exact oD)|(apply ZVu;exact oD;exact nD;exact uD)|(apply ZSk ZNz;exact ZVh rfl)|(apply ZWb;exact eD;((try simp only[List.map_cons,List.map_nil]);(repeat (first|exact Zr|(apply Zp;(first|exact ZVh rfl|exact ZV5|exact ZWE|exact ZWD rfl (by first|exact ZN|exact ZJ (by decide))|exact⟨ZN⟩|exact⟨ZJ (by decide)⟩)))));rfl;rfl;(intro _;first|exact ZAd|exact ZAS|exact ZAI|exact shape_B);(exact(by simp))));all_goals infer_instance));exact zQ)|(apply ZG;exact oD;all_goals (intro h;try exact xD))|refine ZVr ?_|refine ZVp ?_))
 all_goals try exact xO
 refine Zn 3 RI ?_;(refine ZV4 (X:=Nat × Value) (fun x=>[(36,dI (x.1:Int)),(10,dA),(11,dA),(12,dA),(13,dA),(37,dA),(38,dA),(39,dA),(40,dA),(41,dA),(42,dA),(43,dA),(44,dA),(45,dA),(46,dA),(47,dA),(48,dA),(49,dA),(50,dA),(51,dA),(52,dA),(53,dA),(54,dA),(55,dA),(56,dA),(57,dA),(58,dA),(59,dA),(60,dA),(61,dA)]) (fun x=>([Zk x.2 3 RI ((C.take x.1).map (ZIt base)),ZAV b8 25 [dS ZI V,dX x.2],Zm b4 25 2 true (dX (.agg #[.slice none 0 0,.slice none 0 0]))])) (fun x=>C.length-x.1) (fun x=>x.1≤C.length) (0,.slice none 0 0) ?start ?frame0 ?objs0 ?round)
 case start=>exact Nat.zero_le _
 case frame0=>exact zFr
 case objs0=>rfl
 case round =>
  rintro⟨k,v⟩ hk;simp only at hk;dsimp only[ZH,z0,z1];by_cases hkl:k<C.length
  ·have hkI:(k:Int)<(C.length:Int):=by omega
   have hsn:(C.take (k+1)).map (ZIt base)=(C.take k).map (ZIt base)++[ZIt base C[k]]:=by
    rw[List.take_succ_eq_append_getElem hkl,List.map_append];rfl
   have hml:((C.take k).map (ZIt base)).length≤100:=by rw[List.length_map,List.length_take];omega
   (repeat' (first|refine zS ?_|refine ZA fun Kx hK=>?_|(refine hK _ _ ?_;clear hK)|(apply zV;(focus ((first|((first|apply ZVo|apply ZVn|apply ZVq|apply ZVv|apply SY.or) <;> exact oD)|(apply ZVu;exact oD;exact nD;exact uD)|(apply ZV8;exact eD;exact oD;exact oD;exact kD));all_goals infer_instance));exact zQ)|(apply ZB;exact oD;all_goals (intro h;try exact xD))|refine ZVr ?_|refine ZVp ?_))
   all_goals try exact xO
   (refine ZV4 (X:=Nat) (fun j=>[(42,dI (j:Int)),(11,dI (ZKS base C[k] j)),(12,dA),(13,dA),(43,dA),(44,dA),(45,dA),(46,dA),(47,dA),(48,dA),(49,dA),(50,dA),(51,dA),(52,dA),(53,dA),(54,dA)]) (fun j=>([Zk v 3 RI ((C.take k).map (ZIt base)),ZAV b8 25 [dS ZI V,dX v],Zm b4 25 2 true (dX (.agg #[.slice none 0 0,.slice none 0 0]))])) (fun j=>base.length-j) (fun j=>j≤base.length) 0 ?start ?frame0 ?objs0 ?round)
   case start=>exact Nat.zero_le _
   case frame0=>exact zFr
   case objs0=>rfl
   case round =>
    rintro j hj;dsimp only[ZH,z0,z1];by_cases hjl:j<base.length
    ·have hjI:(j:Int)<(base.length:Int):=by omega
     have hmp:=ZRy (c:=C[k]) hjl;have cC:=cnt_p C[k] base[j];by_cases hm:base[j]∈C[k]
     ·have e2:ZRt 1 (j:Int)=((2 ^ j:Nat):Int)   := two9D ⟨j,by omega⟩;rw[if_pos hm,<- e2] at hmp;rw[decide_eq_true hm] at cC;((repeat' (first|(apply zV;exact yF;exact zQ)|refine ZVj ?_|refine ZA fun Kx hK=>?_|(refine hK _ _ ?_;clear hK)|refine ZVk ?_ |  (refine ZWF (dst:=some 13) tzV (ZBd rfl rfl) fun b13=>?_;dsimp only[ZC,z0,z1]) |  (refine ZR tyV rfl (ZVh rfl) ZBA ?_;dsimp only[ZC,z0,z1])|(apply zV;(focus ((first|(apply ZVm (cC) Tryz.call52;exact aD)|exact yG|((first|apply SY.shl) <;> first|exact oD|assumption|omega));all_goals infer_instance));exact zQ)|(apply Zf;exact oD;(with_reducible rfl))|(apply ZB;exact oD;all_goals (intro h;try exact xD))|refine ZVr ?_|refine ZVp ?_|refine ZVx ?_));all_goals ((repeat clear hK);repeat clear Kx))
      all_goals try exact xO
      rw[<- hmp];(refine zNx (j+1) ?_;(try dsimp only))
      exact hjl
     ·rw[if_neg hm] at hmp;rw[decide_eq_false hm] at cC;((repeat' (first|(apply zV;exact yF;exact zQ)|refine ZVj ?_|refine ZA fun Kx hK=>?_|(refine hK _ _ ?_;clear hK)|refine ZVk ?_ |  (refine ZWF (dst:=some 13) tzV (ZBd rfl rfl) fun b13=>?_;dsimp only[ZC,z0,z1]) |  (refine ZR tyV rfl (ZVh rfl) ZBA ?_;dsimp only[ZC,z0,z1])|(apply zV;(focus ((first|(apply ZVm (cC) Tryz.call52;exact aD)|exact yG);all_goals infer_instance));exact zQ)|(apply ZQ;exact oD;(with_reducible rfl))|(apply ZB;exact oD;all_goals (intro h;try exact xD))|refine ZVr ?_|refine ZVp ?_|refine ZVx ?_));all_goals ((repeat clear hK);repeat clear Kx))
      all_goals try exact xO
      rw[<- hmp];(refine zNx (j+1) ?_;(try dsimp only))
      exact hjl
    ·have hjI:¬ (j:Int)<(base.length:Int):=by omega
     obtain rfl:j=base.length:=by omega
     have hml2:((C.take k).map (ZIt base)).length+1≤101:=by omega
     ((repeat' (first|(apply zV;exact yF;exact zQ)|refine ZVj ?_|refine ZA fun Kx hK=>?_|(refine hK _ _ ?_;clear hK)|(refine ZV0 ?_;clear hK)|refine ZVk ?_ |  (refine Zl elI (R:=RI) (_gR:=inferInstance) (ZVh rfl) (ZVh rfl) (fun _=>ZAS) (by simp) (by simp) (by decide) (by omega) fun v'=>?_;dsimp only[ZC,z0,z1]) |  (refine ZCY (mAt 0 rfl) fun hvv=>ZBk (SW.at 1 rfl fun q=>SW.storeS ZHd (ZVh rfl) (ZVh rfl) (Z0 hvv) (by simp)) fun _=>?_;dsimp only[ZC,z0,z1])|(apply zV;(focus ((first|(refine ZAl ZAp (ZVh rfl) (by decide))|(refine ZAY ZHd (ZVh rfl) (mAt 1 rfl) rfl)|exact yG);all_goals infer_instance));exact zQ)|(apply ZB;exact oD;all_goals (intro h;try exact xD))|refine ZV1 ?_|refine ZVx ?_));all_goals ((repeat clear hK);repeat clear Kx))
     all_goals try exact xO
     rw[show ZKS base C[k] base.length=ZIt base C[k] from rfl,<- hsn];(refine zNx (k+1,v') ?_;(try dsimp only))
     exact hkl
  ·have hkI:¬ (k:Int)<(C.length:Int):=by omega
   obtain rfl:k=C.length:=by omega
   rw[List.take_length];refine ZWe (List.Perm.swap _ _ _) (ZEs (k:=1) rfl ?_);dsimp only[z0,z1];((repeat' (first|(apply zV;exact yF;exact zQ)|refine ZVj ?_|refine ZA fun Kx hK=>?_|(refine hK _ _ ?_;clear hK)|(refine ZV0 ?_;clear hK)|refine ZVk ?_ |  (refine ZCC ZAz rfl (ZVh rfl) (ZAD (n:=2) (by decide) rfl) ?_;dsimp only[ZC,z0,z1])|(apply zV;(focus ((first|(refine ZDN ZAz (ZVh rfl) (.head _) (by decide) rfl)|exact yG);all_goals infer_instance));exact zQ)|(apply ZB;exact oD;all_goals (intro h;try exact xD))|refine ZVs ?_|refine ZV1 ?_));all_goals ((repeat clear hK);repeat clear Kx))
   all_goals try exact xO
   exact⟨trivial,⟨_,rfl,ZWR ZUv⟩,_,rfl,ZWR (ZWI _)⟩
end
end Go.Proofs.YtofkoleingbbpaaGreatDoor
