/- Part 20 of the proof. -/
import Derived.Test.YtofkoleingbbpaaGreatDoorZa19
set_option linter.all false
set_option maxRecDepth 100000
set_option maxHeartbeats 64000000
namespace Go.Proofs.YtofkoleingbbpaaGreatDoor
section
open Go.RowKit
open C34

variable {S:Prop}
theorem ZCK {P:Program} {ops:Array Oper} {hp:List HObj} {o:Oper} {fr:List Dat} {α:Type} {D:α->Dat} {x y:α} (e:x=y) (h:SY P ops hp o fr (D x)):SY P ops hp o fr (D y):=e ▸ h
theorem ZJe {P:Program} {ops:Array Oper} {hp:List HObj} {fr:List Dat} {dst:Option Tmp} {ty:TypeId} {ps:String} {af:Array Edge} {g:Option (Nat × Bool)} {T:TypeId} {x:Operand} (hx:OpD fr x (dB true)):SY P ops hp ⟨dst,.unOp .not T x,ty,ps,af,g⟩ fr (dB false):=ZVw hx
theorem ZEK {l:Cx} {q:List Vx->Bool} (h:(ZBf l).2=0) {k:Nat} (h1:1≤k) (h2:k≤8) (hS:S->ZEr l) {s:List Vx} (hs:s∈ZCk l (k:Int) q):S->∀v∈s,v.1<100/\v.2<100:=fun hq v hv=>by
 obtain⟨x,hx,hm⟩:=ZB7.1 (ZEl h h1 h2 hs).2.2.2;have:=hS hq x hx v (((ZAy _ _ _).1 hm).1.subset hv);exact⟨this.1.2,this.2.2⟩
theorem ZPl {L:List Cx} {k:Nat} (h:k<L.length):∃h':k<(ZCi L).length,(ZCi L)[k]=ZFK txS (ZAj L k) (L.getD k []):=by
 refine⟨by simpa[ZCi] using h,?_⟩;simp[ZCi]
theorem ZF1 {L:List Cx} {k:Nat} (h:k<L.length):L[k]=L.getD k []:=by rw[List.getD_eq_getElem?_getD,List.getElem?_eq_getElem h];rfl
theorem Lv.inj {L:List Cx} (h:Lv L) (k:Nat):∀a∈L.getD k [],∀b∈L.getD k [],txS a=txS b->a=b:=fun a ha b hb e=>ZFr (h.ok k a ha).1 (h.ok k b hb).1 e
theorem Lv.keys {L:List Cx} (h:Lv L) (k off:Nat):(∀p∈ZFK txS off (L.getD k []),okS p.1)/\((ZFK txS off (L.getD k [])).map (·.1)).Nodup:=by
 have hk:=ZIx (off:=off) (h.nd k) (h.inj k) _ (Nat.le_refl _);rw[List.take_length] at hk;refine⟨fun p hp=>?_,?_⟩
 ·have:p.1∈(L.getD k []).map txS:=by rw[<- hk];exact List.mem_map_of_mem hp
  obtain⟨s,hs,he⟩:=List.mem_map.1 this;rw[<- he];exact ZAH (h.ok k s hs).1
 ·rw[hk];exact List.pairwise_map.2 ((h.nd k).imp_of_mem fun {a c} ha hc hne e=>hne (h.inj k a ha c hc e))
theorem ZR8 {m:HObj} {R q:List HObj} {k:Nat} {o:HObj} (h:R[k]?=some o):(m::(R++q)).Perm (o::m::(R.eraseIdx k++q)):=by
 have h1:=ZGS h;have h2:(m::(R++q)).Perm (m::(o::R.eraseIdx k++q)):=List.Perm.cons _ (List.Perm.append_right _ h1);exact h2.trans (List.Perm.swap _ _ _)
theorem ZTk (l:Cx) (f:Vx->Int) (d n:Nat) (hd:d≤8) (heul:(ZBf l).2=0) (hF:ZF8 l≤1000) (hS:S->ZEr l) (vu vx:Value) :
  SeqC Tryz.prog 101 [vu,vx] [ZAn vu (dP 1 false (ZRj S (ZAk l f d) (ZCi (ZAk l f d)) n)),ZAn vx (dP 2 true (ZHZ l f)),ZIj S] (fun r=>dS ZAQ r) (ZMK l f (ZAk l f d) (d-1)):=⟨fun ly J hY js hj=>by
 have hL:=ZGP (f:=f) heul hd;have hLl:=ZAO (l:=l) (f:=f) (d:=d);obtain⟨L,hLe⟩:∃L,ZAk l f d=L:=⟨_,rfl⟩;have hlv:∀k,k<d->L.getD k []=ZCk l ((k:Int)+1) (ZAg f (k:Int)):=fun k hk=>by rw[<- hLe];exact ZHD hk
 have hlen:∀k,k<d->(L.getD k []).length≤1000:=fun k hk=>by
  rw[hlv k hk];exact Nat.le_trans (ZDc (k:=k+1) heul (by omega) (by omega)) hF
 have hoff:∀k,k≤d->ZAj L k≤8000:=fun k hk=>by
  have h1:=ZKV (f:=f) heul hd k hk;rw[hLe] at h1;have h2:ZF8 l*k≤1000*8:=Nat.mul_le_mul hF (by omega);omega
 rw[hLe] at hL hLl hY ⊢;(refine ZDk Tryz.func101 rfl rfl (fun hp=>?_);simp only[Tryz.ntmps101,List.length_cons,List.length_nil,List.length_append,List.length_map,Nat.reduceAdd,Nat.reduceSub,List.replicate_succ,List.replicate_zero,List.cons_append,List.nil_append,List.map_cons,List.map_nil,List.append_assoc])
 refine ZL6 ZFj ?_;refine ZHq 1 rfl (.head _) ?_;refine ZHq 2 rfl (.tail _ (.head _)) ?_;dsimp only[z0,z1];(repeat' (first|refine zS ?_|refine ZA fun Kx hK=>?_|(refine hK _ _ ?_;clear hK)|refine ZVp ?_))
 all_goals try exact xO
 (refine ZV4 (X:=Nat × List HObj) (fun x=>[(4,dI ((x.1:Int)+1)),(5,dA),(7,dA),(8,dA),(9,dA),(11,dA),(13,dA),(14,dA),(15,dA),(16,dA),(17,dA),(18,dA),(19,dA),(20,dA),(21,dA),(22,dA),(23,dA),(24,dA),(25,dA),(26,dA),(27,dA),(28,dA),(29,dA),(30,dA),(31,dA),(32,dA),(33,dA),(34,dA),(35,dA),(36,dA),(37,dA),(38,dA),(39,dA),(40,dA),(41,dA),(42,dA),(43,dA),(44,dA),(45,dA),(46,dA),(47,dA),(48,dA),(49,dA),(50,dA),(51,dA),(52,dA),(53,dA),(54,dA),(55,dA),(56,dA),(57,dA),(58,dA),(59,dA),(60,dA),(61,dA),(62,dA),(63,dA),(64,dA),(65,dA),(66,dA),(67,dA),(68,dA),(69,dA),(70,dA),(71,dA),(72,dA),(73,dA),(74,dA),(75,dA),(76,dA),(77,dA),(78,dA),(79,dA),(80,dA),(81,dA),(82,dA),(83,dA),(84,dA),(85,dA),(86,dA),(87,dA),(88,dA),(89,dA),(90,dA),(91,dA),(92,dA),(93,dA),(94,dA),(95,dA),(96,dA),(97,dA),(98,dA),(99,dA),(100,dA),(101,dA),(102,dA),(103,dA),(104,dA),(105,dA),(106,dA),(107,dA),(108,dA),(109,dA),(110,dA),(111,dA)]) (fun x=>(ZAn vu (dP 1 false (ZRj S L (ZCi L) n))::ZAn vx (dP 2 true (ZHZ l f))::ZIj S::(x.2++hp))) (fun x=>d-x.1) (fun x=>x.1≤d-1/\J (ZMK l f L x.1) x.2) (0,js) ?start ?frame0 ?objs0 ?round)
 case start=>exact⟨Nat.zero_le _,hj⟩
 case frame0=>exact zFr
 case objs0=>rfl
 case round =>
  rintro⟨j,js1⟩ ⟨h1,hJ⟩;simp only at h1 hJ;dsimp only[ZH,z0,z1];by_cases hjd:j+1<d
  ·have hjI:((j:Int)+1)<(L.length:Int):=by omega
   have hjl:j+1<L.length:=by omega
   have hj0:j<L.length:=by omega
   obtain⟨n1,en1⟩:=ZPl hjl;obtain⟨n0,en0⟩:=ZPl hj0;have el1:=ZF1 hjl;have hl1:=hlen (j+1) hjd;have ho1:=hoff (j+1) (by omega);have hnd1:=hL.nd (j+1);have hok1:=hL.ok (j+1);have hinj1:=hL.inj (j+1);have hsm1:S->∀s∈L.getD (j+1) [],∀v∈s,v.1<100/\v.2<100:=fun q s hs=>by
    rw[hlv _ hjd] at hs;exact ZEK (k:=j+1+1) heul (by omega) (by omega) hS (by simpa using hs) q
   obtain⟨lv,hlve⟩:∃lv,L.getD (j+1) []=lv:=⟨_,rfl⟩;have hkk:=hL.keys (j+1) (ZAj L (j+1));have hat:∀i (hi:i<lv.length),lookM (ZFK txS (ZAj L (j+1)) lv) (txS lv[i])=some ((ZAj L (j+1)+i:Nat):Int):=fun i hi=>by
    subst hlve;exact ZVO hnd1 hinj1 hi
   rw[hlve] at hkk en1 el1 hl1 hnd1 hok1 hinj1 hsm1;have hjI2:(j:Int)+1=((j+1:Nat):Int):=by omega
   obtain⟨off,hofe⟩:∃off,ZAj L (j+1)=off:=⟨_,rfl⟩;rw[hofe] at en1 ho1 hkk hat;(repeat' (first|(apply zV;exact yF;exact zQ)|refine ZVj ?_|refine ZA fun Kx hK=>?_|(refine hK _ _ ?_;clear hK)|refine ZVk ?_ |  (refine ZWm kvS vvT fun bm=>?_;dsimp only[ZC,z0,z1])|(apply zV;(focus ((first|(apply ZVy;exact ZUo;exact ZVh rfl)|(exact ZA4 (ZVh rfl))|(refine ZW ZCc (ZVh rfl) (ZWI _) rfl rfl)|(apply ZVy;exact ZUm;exact ZVh rfl)|(apply ZVu;exact ZVh rfl;exact ZB0;exact ZAK.unt)|(refine ZCK (D:=fun z=>dP 1 false (dS (ZA5 S) z)) el1 (ZV8 (R:=ZA5 S) (_gR:=inferInstance) (k:=j+1) ZAK (ZVh rfl) (hjI2 ▸ ZVh rfl) hjl))|((first|apply ZVo|apply ZVn|apply ZVq|apply ZVw) <;> exact oD)|(apply ZVu;exact oD;exact nD;exact uD));all_goals infer_instance));exact zQ)|(apply ZB;exact oD;all_goals (intro h;try exact xD))|refine ZVr ?_|refine ZVp ?_))
   all_goals try exact xO
   (refine ZV4 (X:=Nat × ArM) (fun x=>[(35,dI (x.1:Int)),(7,dA),(8,dA),(9,dA),(11,dA),(36,dA),(37,dA),(38,dA),(39,dA),(40,dA),(41,dA),(42,dA),(43,dA),(44,dA),(45,dA),(46,dA),(47,dA),(48,dA),(49,dA),(50,dA),(51,dA),(52,dA),(53,dA),(54,dA),(55,dA),(56,dA),(57,dA),(58,dA),(59,dA),(60,dA),(61,dA),(62,dA),(63,dA),(64,dA),(65,dA),(66,dA),(67,dA),(68,dA),(69,dA),(70,dA),(71,dA)]) (fun x=>(hM bm kvS vvT x.2::(ZCj x.2++(ZAn vu (dP 1 false (ZRj S L (ZCi L) n))::ZAn vx (dP 2 true (ZHZ l f))::ZIj S::(js1++hp))))) (fun x=>lv.length-x.1) (fun x=>x.1≤lv.length/\(x.2.map (·.1)).Nodup/\(∀p∈x.2,okS p.1)/\(∀p∈x.2,p.2.2.length≤256*x.1)/\ZBN x.2=arF txS (ZT (j+1)) off (lv.take x.1)) (0,[]) ?start ?frame0 ?objs0 ?round)
   case start=>exact⟨Nat.zero_le _,by simp,by simp,by simp,rfl⟩
   case frame0=>exact zFr
   case objs0=>rfl
   case round =>
    rintro⟨i,M⟩ ⟨g1,g2,g3,g4,g5⟩;simp only at g1 g2 g3 g4 g5;dsimp only[ZH,z0,z1];by_cases hil:i<lv.length
    ·have hilI:(i:Int)<(lv.length:Int):=by omega
     have hmi:=List.getElem_mem hil;obtain⟨hcs,hcl⟩:=hok1 _ hmi;have hFc:Fn Tryz.prog 68 [dS ZI lv[i],dI ((j:Int)+1)] (dT [dS Zh (ZT (j+1) lv[i]),dI 0]):=by
      have:=ZIe lv[i] ((j+1:Nat):Int);rwa[ZEg hcs (by omega) (by omega)] at this
     have hfc:∀t∈ZT (j+1) lv[i],ZAC t=0:=fun t ht=>(ZA7 hcs (by omega) ht).1;have hfl:=ZQY (Zi.1 hcs).2.1 (j+1);have hfs:S->∀t∈ZT (j+1) lv[i],∀v∈t,v.1<100/\v.2<100:=fun q t ht v hv=>hsm1 q _ hmi v (((ZAy _ _ _).1 ht).1.subset hv);have hlk1:(lookM (ZFK txS off lv) (txS lv[i])).getD 0=((off+i:Nat):Int):=by rw[hat i hil];rfl
     have cKs:=ZF0 (S:=S) hcs fun q=>hsm1 q _ hmi;have hsn:=ZMB (kx:=txS) (fac:=ZT (j+1)) (off:=off) hil;generalize ZT (j+1) lv[i]=fs at *;(repeat' (first|refine zS ?_|refine ZA fun Kx hK=>?_|(refine hK _ _ ?_;clear hK)|(apply zV;(focus ((first|(apply ZVm hFc Tryz.call68;exact ZV9 (ZWD rfl ZNX) (ZV9 (ZVh rfl) ZWJ))|((first|apply ZVo|apply ZVn|apply ZVq|apply ZVw) <;> exact oD)|(apply ZVu;exact oD;exact nD;exact uD)|(apply ZV8;exact eD;exact oD;exact oD;exact kD)|(apply ZWG;exact oD;rfl));all_goals infer_instance));exact zQ)|(apply ZB;exact oD;all_goals (intro h;try exact xD))|refine ZVr ?_|refine ZVp ?_))
     all_goals try exact xO
     refine ZDQ (d':=dS (ZA5 S) fs) 45 (List.mem_cons_of_mem _ (List.mem_append_right _ (mAt 2 rfl))) rfl (fun _ _ _=>gain_S) ?_;dsimp only[z0,z1];(refine ZV4 (X:=Nat × ArM) (fun x=>[(47,dI (x.1:Int)),(11,dA),(48,dA),(49,dA),(50,dA),(51,dA),(52,dA),(53,dA),(54,dA),(55,dA),(56,dA),(57,dA),(58,dA),(59,dA),(60,dA),(61,dA),(62,dA),(63,dA),(64,dA),(65,dA),(66,dA),(67,dA),(68,dA),(69,dA),(70,dA)]) (fun x=>(hM bm kvS vvT x.2::(ZCj x.2++(ZAn vu (dP 1 false (ZRj S L (ZCi L) n))::ZAn vx (dP 2 true (ZHZ l f))::ZIj S::(js1++hp))))) (fun x=>fs.length-x.1) (fun x=>x.1≤fs.length/\(x.2.map (·.1)).Nodup/\(∀p∈x.2,okS p.1)/\(∀p∈x.2,p.2.2.length≤256*i+x.1)/\ZBN x.2=ZIR txS ((off+i:Nat):Int) (fs.take x.1) (arF txS (ZT (j+1)) off (lv.take i))) (0,M) ?start ?frame0 ?objs0 ?round)
     case start=>exact⟨Nat.zero_le _,g2,g3,g4,g5⟩
     case frame0=>exact zFr
     case objs0=>rfl
     case round =>
      rintro⟨m,M⟩ ⟨r1,r2,r3,r4,r5⟩;simp only at r1 r2 r3 r4 r5;dsimp only[ZH,z0,z1];by_cases hml:m<fs.length
      ·have hmlI:(m:Int)<(fs.length:Int):=by omega
       have hcf:=hfc _ (List.getElem_mem hml);have cKf:=ZF0 (S:=S) hcf fun q=>hfs q _ (List.getElem_mem hml);have hsn2:=ZOm (kx:=txS) (i:=((off+i:Nat):Int)) (m:=arF txS (ZT (j+1)) off (lv.take i)) hml;obtain⟨ni,hni⟩:∃ni,((off+i:Nat):Int)=ni:=⟨_,rfl⟩;rw[hni] at hlk1 hsn2 r5;rcases ZKM M (txS fs[m]) with ⟨q,hq,hqe⟩|hne
       ·have hlk:lookM M (txS fs[m])=some M[q].2:=by rw[<- hqe];exact ZDB r2 hq
        have hput:∀u,ZCH M (txS fs[m]) u=M.set q (M[q].1,u):=fun u=>by rw[<- hqe];exact ZFA r2 hq
        have hrow:(ZCj M)[q]?=some (Zk (vvT M[q].2) 3 RI M[q].2.2):=ZMo hq;have hlen4:=r4 _ (List.getElem_mem hq);have hcs2:=fun v'=>ZPF r2 hq v' ni;have hkey:=fun u=>ZHF M q hq u;have h8:(M[q].2.2.length+[ni].length)*8≤140737488355328:=by simp only[List.length_cons,List.length_nil];omega
        refine ZWe (ZR8 hrow) ?_;((repeat' (first |  (refine WC.drawM (fun hp'=>hM bm kvS vvT M∈hp') 19 1 [(0,false),(1,false),(2,false),(3,false),(4,false),(5,false),(6,false),(7,false),(8,false),(9,false),(10,false),(11,false),(12,false),(13,false),(14,false),(15,false),(16,false),(17,false),(18,true)] [true,true,true,true,true,true,true,true,true,true,true,true,true,true,true,true,true,true,true,false] (by kernel_rfl) (by kernel_rfl) (by kernel_rfl) rfl (mAt 1 rfl) ?_) |  (first|refine WA.one (S:=[true,true,true,true,true,true,true,true,true,true,true,true,true,true,true,true,true,true,true,false]) (i:=19) (by kernel_rfl) rfl ?_|refine WA.nil (S:=[true,true,true,true,true,true,true,true,true,true,true,true,true,true,true,true,true,true,true,true]) (by kernel_rfl) ?_) |  (refine ZBX rfl (SW.app1 elI (R:=RI) (_gR:=inferInstance) (ZVh rfl) (ZVh rfl) (by decide) h8) (fun _=>mAt 1 rfl) fun v'=>?_;dsimp only[ZC,z0,z1])|(refine WM.nil ?_)|(apply WM.readL rfl;(focus (intro c hcc;apply ZVt;(exact ZY rfl);((first|(refine ZCK (D:=fun z=>dP 1 false (dS (ZF4 kvS RI) z)) en1 (ZV8 (R:=ZF4 kvS RI) (_gR:=inferInstance) (k:=j+1) ZUf (ZVh rfl) (hjI2 ▸ ZVh rfl) n1))|(apply ZVy;exact ZUo;exact ZVh rfl)|(exact ZA4 (ZVh rfl))|(refine ZW ZCc (ZVh rfl) (ZWI _) rfl rfl)|(apply ZVy;exact ZUn;exact ZVh rfl)|(apply ZVy;exact tyMp;exact ZVh rfl)|(apply ZVm (cKf) Tryz.call69;exact ZV9 (ZVh rfl) (ZWJ))|(apply ZVm (cKs) Tryz.call69;exact ZV9 (ZVh rfl) (ZWJ))|(refine ZCK (D:=fun z=>dI z) hlk1 (ZEp (a0:=(0:Int)) ZE2 ZBa (ZVh rfl) (ZVh rfl) isX (ZAH hcs) hkk.1 hkk.2 (fun _ _=>rfl)))|(exact ZWb (R:=RI) (_gR:=inferInstance) (els:=[ni]) elI (Zp (ZVh rfl) Zr) rfl rfl (fun _=>ZAS) (Nat.le_of_ble_eq_true rfl))|(refine ZOF ZFe ZBa (ZVh rfl) hcc (ZVh rfl) isX (ZAH hcf) r3 r2 hlk)|((first|apply ZVo|apply ZVn|apply ZVq|apply ZVw) <;> exact oD)|fail);all_goals infer_instance)));dsimp only[ZC,z0,z1])|((first|apply ZVi|apply ZVl);exact yF;dsimp only[ZC,z0,z1])|refine ZVj ?_|refine ZA fun Kx hK=>?_|(refine hK _ _ ?_;clear hK)|refine ZVk ?_ |  (refine ZWP (List.Perm.swap _ _ _) (ZBW (v:=txS fs[m]) (u:=(v',M[q].2.2++[ni])) ZFe ZBa (ZVh rfl) (ZVh rfl) isX (ZVh rfl) ⟨fun _ _ _ h=>h⟩ (ZAH hcf) r3 r2 ?_);rw[hput];refine ZWP (List.Perm.cons _ (List.Perm.append_right _ (ZQH M q hq (M[q].1,(v',M[q].2.2++[ni]))))) ?_;dsimp only[ZC,z0,z1])|((first|apply ZVi|apply ZVl);(focus ((first|((first|apply ZVo|apply ZVn|apply ZVq|apply ZVw) <;> exact oD)|((first|apply ZV2|apply ZWM) <;> first|exact oD|omega)|(apply ZV8;exact eD;exact oD;exact oD;exact kD)|fail);all_goals infer_instance));dsimp only[ZC,z0,z1])|(apply ZB;exact oD;all_goals (intro h;try exact xD))|refine ZVr ?_|refine ZVp ?_|refine ZVx ?_));all_goals ((repeat clear hK);repeat clear Kx))
        all_goals try exact xO
        (refine zNx (m+1,M.set q (M[q].1,(v',M[q].2.2++[ni]))) ?_;(try dsimp only))
        refine⟨hml,?_,?_,?_,?_⟩
        ·rw[hkey];exact r2
        ·intro p hp;rcases List.mem_or_eq_of_mem_set hp with hp|rfl
         ·exact r3 p hp
         ·exact(show okS M[q].1 from r3 _ (List.getElem_mem hq))
        ·intro p hp;rcases List.mem_or_eq_of_mem_set hp with hp|rfl
         ·have:=r4 p hp;omega
         ·simp only[List.length_append,List.length_cons,List.length_nil];omega
        ·rw[hcs2,hqe,r5,hni,hsn2]
       ·have hlk:lookM M (txS fs[m])=none:=ZCF hne;have hput:∀u,ZCH M (txS fs[m]) u=M++[(txS fs[m],u)]:=fun u=>ZDa hne;have hcs2:=fun v'=>ZPE hne v' ni;have h8:(([]:List Int).length+[ni].length)*8≤140737488355328:=by simp
        refine Zn 3 RI ?_;((repeat' (first |  (refine WC.drawM (fun hp'=>hM bm kvS vvT M∈hp') 19 1 [(0,false),(1,false),(2,false),(3,false),(4,false),(5,false),(6,false),(7,false),(8,false),(9,false),(10,false),(11,false),(12,false),(13,false),(14,false),(15,false),(16,false),(17,false),(18,true)] [true,true,true,true,true,true,true,true,true,true,true,true,true,true,true,true,true,true,true,false] (by kernel_rfl) (by kernel_rfl) (by kernel_rfl) rfl (mAt 1 rfl) ?_) |  (first|refine WA.one (S:=[true,true,true,true,true,true,true,true,true,true,true,true,true,true,true,true,true,true,true,false]) (i:=19) (by kernel_rfl) rfl ?_|refine WA.nil (S:=[true,true,true,true,true,true,true,true,true,true,true,true,true,true,true,true,true,true,true,true]) (by kernel_rfl) ?_) |  (refine ZBX rfl (SW.app1 elI (R:=RI) (_gR:=inferInstance) (ZVh rfl) (ZVh rfl) (by decide) h8) (fun _=>mAt 1 rfl) fun v'=>?_;dsimp only[ZC,z0,z1])|(refine WM.nil ?_)|(apply WM.readL rfl;(focus (intro c hcc;apply ZVt;(exact ZY rfl);((first|(refine ZCK (D:=fun z=>dP 1 false (dS (ZF4 kvS RI) z)) en1 (ZV8 (R:=ZF4 kvS RI) (_gR:=inferInstance) (k:=j+1) ZUf (ZVh rfl) (hjI2 ▸ ZVh rfl) n1))|(apply ZVy;exact ZUo;exact ZVh rfl)|(exact ZA4 (ZVh rfl))|(refine ZW ZCc (ZVh rfl) (ZWI _) rfl rfl)|(apply ZVy;exact ZUn;exact ZVh rfl)|(apply ZVy;exact tyMp;exact ZVh rfl)|(apply ZVm (cKf) Tryz.call69;exact ZV9 (ZVh rfl) (ZWJ))|(apply ZVm (cKs) Tryz.call69;exact ZV9 (ZVh rfl) (ZWJ))|(refine ZCK (D:=fun z=>dI z) hlk1 (ZEp (a0:=(0:Int)) ZE2 ZBa (ZVh rfl) (ZVh rfl) isX (ZAH hcs) hkk.1 hkk.2 (fun _ _=>rfl)))|(exact ZWb (R:=RI) (_gR:=inferInstance) (els:=[ni]) elI (Zp (ZVh rfl) Zr) rfl rfl (fun _=>ZAS) (Nat.le_of_ble_eq_true rfl))|(refine ZOE ZFe ZBa (ZVh rfl) hcc (ZVh rfl) isX (ZAH hcf) r3 r2 hlk)|((first|apply ZVo|apply ZVn|apply ZVq|apply ZVw) <;> exact oD)|fail);all_goals infer_instance)));dsimp only[ZC,z0,z1])|((first|apply ZVi|apply ZVl);exact yF;dsimp only[ZC,z0,z1])|refine ZVj ?_|refine ZA fun Kx hK=>?_|(refine hK _ _ ?_;clear hK)|refine ZVk ?_ |  (refine ZWP (List.Perm.swap _ _ _) (ZBW (v:=txS fs[m]) (u:=(v',[ni])) ZFe ZBa (ZVh rfl) (ZVh rfl) isX (ZVh rfl) ⟨fun _ _ _ h=>h⟩ (ZAH hcf) r3 r2 ?_);rw[hput];refine ZWP (List.Perm.cons _ (List.Perm.append_right _ (ZNl M (txS fs[m],(v',[ni]))))) ?_;dsimp only[ZC,z0,z1])|((first|apply ZVi|apply ZVl);(focus ((first|((first|apply ZVo|apply ZVn|apply ZVq|apply ZVw) <;> exact oD)|((first|apply ZV2|apply ZWM) <;> first|exact oD|omega)|(apply ZV8;exact eD;exact oD;exact oD;exact kD)|fail);all_goals infer_instance));dsimp only[ZC,z0,z1])|(apply ZB;exact oD;all_goals (intro h;try exact xD))|refine ZVr ?_|refine ZVp ?_|refine ZVx ?_));all_goals ((repeat clear hK);repeat clear Kx))
        all_goals try exact xO
        (refine zNx (m+1,M++[(txS fs[m],(v',[ni]))]) ?_;(try dsimp only))
        refine⟨hml,?_,?_,?_,?_⟩
        ·rw[List.map_append,List.nodup_append];refine⟨r2,by simp,fun a ha c hc=>?_⟩;have:c=txS fs[m]:=by simpa using hc
         subst this;obtain⟨p,hp,rfl⟩:=List.mem_map.1 ha;exact hne p hp
        ·intro p hp;rcases List.mem_append.1 hp with hp|hp
         ·exact r3 p hp
         ·rw[List.mem_singleton.1 hp];exact ZAH hcf
        ·intro p hp;rcases List.mem_append.1 hp with hp|hp
         ·have:=r4 p hp;omega
         ·rw[List.mem_singleton.1 hp];simp only[List.length_cons,List.length_nil];omega
        ·rw[hcs2,r5,hni,hsn2]
      ·have hmlI:¬ (m:Int)<(fs.length:Int):=by omega
       obtain rfl:m=fs.length:=by omega
       rw[List.take_length] at r5;((repeat' (first|refine zS ?_|refine ZA fun Kx hK=>?_|(refine hK _ _ ?_;clear hK)|(refine ZV0 ?_;clear hK)|(apply zV;exact yG;exact zQ)|(apply ZB;exact oD;all_goals (intro h;try exact xD))|refine ZV1 ?_|refine ZVx ?_));all_goals ((repeat clear hK);repeat clear Kx))
       all_goals try exact xO
       (refine zNx (i+1,M) ?_;(try dsimp only))
       exact⟨hil,r2,r3,fun p hp=>by have:=r4 p hp;omega,by rw[r5,hsn]⟩
    ·have hilI:¬ (i:Int)<(lv.length:Int):=by omega
     obtain rfl:i=lv.length:=by omega
     rw[List.take_length] at g5;refine ZOT (t:=5) rfl ?_;dsimp only[z0,z1];have cC:=ZJ3 l f (j+1) (by omega);rw[<- hjI2] at cC;obtain⟨F,hFe⟩:∃F,ZCk l ((j+1:Nat):Int) (ZF6 f (((2 ^ (j+1):Nat):Int)-1))=F:=⟨_,rfl⟩;have hall:=fun k (h1:1≤k) (h2:k≤8)=>(ZBI heul).2 k h1 h2;have cF:Fn Tryz.prog 59 [ZHZ l f,dI ((j:Int)+1),dOk (ZF6 f (((2 ^ (j+1):Nat):Int)-1))] (dS Zh F):=by
      have h:=ZJG l f ((j+1:Nat):Int) (ZF6 f (((2 ^ (j+1):Nat):Int)-1)) fun h8=>by
       have h4:=hall (j+1) (by omega) (by omega);unfold ZCR;rw[if_neg (by simpa using(ZBI heul).1),if_neg (by omega),Int.toNat_natCast,if_neg (by omega)];simp only;omega
      rw[hFe] at h;rwa[hjI2]
     have hFc:∀s∈F,ZAC s=0:=fun s hs=>by rw[<- hFe] at hs;exact(ZEl heul (by omega) (by omega) hs).1
     have hFs:S->∀s∈F,∀v∈s,v.1<100/\v.2<100:=fun q s hs=>by rw[<- hFe] at hs;exact ZEK heul (by omega) (by omega) hS hs q
     have hFl:F.length≤1000:=by rw[<- hFe];exact Nat.le_trans (ZDc heul (by omega) (by omega)) hF
     have hrk:ZFC l f L (j+1)=F.map fun s=>ZQv txS (ZT (j+1)) L s (j+1):=by rw[<- hFe];rfl
     have hk0:=hL.keys j (ZAj L j);have hokc:∀p∈ZBN M,okS p.1:=fun p hp=>by
      obtain⟨q,hq,rfl⟩:=List.mem_map.1 hp;exact g3 q hq
     have hndc:((ZBN M).map (·.1)).Nodup:=by rw[ZFa];exact g2
     have hlenM:∀x,((lookM (ZBN M) x).getD []).length≤256000:=fun x=>by
      rcases ZKM M x with ⟨q,hq,hqe⟩|hne
      ·rw[<- hqe,ZHy g2 hq];have:=g4 _ (List.getElem_mem hq);show M[q].2.2.length≤_;omega
      ·rw[ZCF fun p hp=>by
        obtain⟨q,hq,rfl⟩:=List.mem_map.1 hp;exact hne q hq]
       simp
     have hrowM:∀s,ZQv txS (ZT (j+1)) L s (j+1)=(lookM (ZFK txS (ZAj L j) (L.getD j [])) (txS s)).toList++(lookM (ZBN M) (txS s)).getD []:=fun s=>by
      rw[g5,<- hlve,<- hofe];rfl
     have hsub1:(j:Int)+1-1=(j:Int):=by omega
     (repeat' (first|refine zS ?_|refine WD.nil ?_|refine ZA fun Kx hK=>?_|(refine hK _ _ ?_;clear hK)|(refine ZV0 ?_;clear hK)|(apply ZWB;kernel_rfl;kernel_rfl)|((first|apply ZVi|apply ZVl);(focus ((first|(apply ZVy;exact ZBx;exact ZVh rfl)|(apply ZVm (cC) Tryz.call70;exact aD)|(apply ZVm (cF) Tryz.call59;exact aD)|((first|apply ZVo|apply ZVn|apply ZVq|apply ZVw) <;> exact oD)|(apply ZVu;exact oD;exact nD;exact uD)|fail);all_goals infer_instance));dsimp only[ZC,z0,z1])|(apply ZB;exact oD;all_goals (intro h;try exact xD))|refine ZV1 ?_|refine ZVp ?_))
     all_goals try exact xO
     refine ZDQ (d':=dS (ZA5 S) F) 77 (mAt 2 rfl) rfl (fun _ _ _=>gain_S) ?_;dsimp only[z0,z1];(refine ZV4 (X:=Nat × List HObj) (fun x=>[(79,dI (x.1:Int)),(13,dA),(14,dA),(15,dA),(16,dA),(80,dA),(81,dA),(82,dA),(83,dA),(84,dA),(85,dA),(86,dA),(87,dA),(88,dA),(89,dA),(90,dA),(91,dA),(92,dA),(93,dA),(94,dA),(95,dA),(96,dA),(97,dA),(98,dA),(99,dA),(100,dA),(101,dA),(102,dA),(103,dA),(104,dA),(105,dA),(106,dA),(107,dA),(108,dA),(109,dA),(110,dA),(111,dA)]) (fun x=>(ZAn vu (dP 1 false (ZRj S L (ZCi L) n))::ZAn vx (dP 2 true (ZHZ l f))::ZIj S::(x.2++hp))) (fun x=>F.length-x.1) (fun x=>x.1≤F.length/\J (ZMK l f L j++(ZFC l f L (j+1)).take x.1) x.2) (0,js1) ?start ?frame0 ?objs0 ?round)
     case start=>exact⟨Nat.zero_le _,by rw[List.take_zero,List.append_nil];exact hJ⟩
     case frame0=>exact zFr
     case objs0=>rfl
     case round =>
      rintro⟨m,js2⟩ ⟨r1,r2⟩;simp only at r1 r2;dsimp only[ZH,z0,z1];by_cases hml:m<F.length
      ·have hmlI:(m:Int)<(F.length:Int):=by omega
       have hc:=hFc _ (List.getElem_mem hml);have cK:=ZF0 (S:=S) hc fun q=>hFs q _ (List.getElem_mem hml);have hlenR:=hlenM (txS F[m]);have hsn:(ZFC l f L (j+1)).take (m+1)=(ZFC l f L (j+1)).take m++[ZQv txS (ZT (j+1)) L F[m] (j+1)]:=by
        rw[hrk,<- List.map_take,ZAP hml,List.map_append,<- List.map_take];rfl
       have hlt:(ZMK l f L j++(ZFC l f L (j+1)).take m).length<(ZMK l f L (d-1)).length:=by
        have h1:=ZJ4 (l:=l) (f:=f) (L:=L) (j:=j+1) (d-1-(j+1));rw[show j+1+(d-1-(j+1))=d-1 by omega,ZG0,List.length_append] at h1;rw[List.length_append,List.length_take];have h2:(ZFC l f L (j+1)).length=F.length:=by rw[hrk,List.length_map]
        omega
       have hrm:=hrowM F[m];refine Zn 3 RI ?_;cases hlk:lookM (ZFK txS (ZAj L j) (L.getD j [])) (txS F[m]) with
       | none =>
        rw[hlk] at hrm;rw[show(none:Option Int).toList=[] from rfl] at hrm;(repeat' (first |  (refine I.WC.region (id:=21) ?_)|((first|apply ZVi|apply ZVl);exact yF;dsimp only[ZC,z0,z1])|refine ZVj ?_|refine WD.nil ?_|refine ZA fun Kx hK=>?_|(refine hK _ _ ?_;clear hK)|refine ZVk ?_|(apply ZWB;kernel_rfl;kernel_rfl)|((first|apply ZVi|apply ZVl);(focus ((first|(refine ZCK (D:=fun z=>dP 1 false (dS (ZF4 kvS RI) z)) en0 (ZV8 (R:=ZF4 kvS RI) (_gR:=inferInstance) (k:=j) ZUf (ZVh rfl) (ZWD rfl (ZCO (by omega))) n0))|(apply ZVy;exact ZUo;exact ZVh rfl)|(exact ZA4 (ZVh rfl))|(refine ZW ZCc (ZVh rfl) (ZWI _) rfl rfl)|(apply ZVy;exact ZUn;exact ZVh rfl)|(apply ZVy;exact tyMp;exact ZVh rfl)|(apply ZVm (cK) Tryz.call69;exact aD)|(refine ZMy (a0:=(0:Int)) ZE2 ZBa (ZVh rfl) (ZVh rfl) isX (ZAH hc) hk0.1 hk0.2 (fun _ _=>rfl) hlk)|((first|apply ZVo|apply ZVn|apply ZVq|apply ZVw) <;> exact oD)|((first|apply ZV2|apply ZWM) <;> first|exact oD|omega)|(apply ZV8;exact eD;exact oD;exact oD;exact kD)|(apply ZWG;exact oD;rfl)|fail);all_goals infer_instance));dsimp only[ZC,z0,z1])|(apply ZQ;exact oD;(with_reducible rfl))|(apply ZB;exact oD;all_goals (intro h;try exact xD))|refine ZVr ?_|refine ZVp ?_))
        all_goals try exact xO
        iterate 4 (refine I.WL.op rfl (ZVo (ZVh rfl)) ?_;dsimp only[ZC,z0,z1])
        refine I.WL.op rfl (ZVm cK Tryz.call69 (ZV9 (ZVh rfl) ZWJ)) ?_;dsimp only[ZC,z0,z1];refine I.WL.op rfl (ZEp (a0:=([]:List Int)) ZFe ZBa (ZVh rfl) (ZVh rfl) isX (ZAH hc) hokc hndc (fun _ _=>ZB5)) ?_;dsimp only[ZC,z0,z1];refine I.WL.app1 elI (R:=RI) (_gR:=inferInstance) (ZVh rfl) (ZVh rfl) (by decide) (by simp only[List.length_append,List.length_cons,List.length_nil];omega) fun v2=>?_;dsimp only[ZC,z0,z1];refine I.ZDR (s:=108) rfl ?_;dsimp only[ZC,z0,z1];rw[<- hrm];refine I.WL.perm ZFj.symm (I.WL.yield (pre:=ZMK l f L j++(ZFC l f L (j+1)).take m) (y:=ZQv txS (ZT (j+1)) L F[m] (j+1)) hY hlt r2 (ZVh rfl) (ZVh rfl) fun js3 hj3=>I.WL.perm ZFj ?_);dsimp only[ZC,z0,z1];rw[List.append_assoc,<- hsn] at hj3;refine I.WL.op rfl (ZJe (ZVh rfl)) ?_;dsimp only[ZC,z0,z1];refine I.WL.nil ?_;((repeat' (first|refine zS ?_|(refine hK _ _ ?_;clear hK)|(apply zV;exact yG;exact zQ)|(apply ZQ;exact oD;(with_reducible rfl))|refine ZVr ?_|refine ZVx ?_));all_goals ((repeat clear hK);repeat clear Kx))
        all_goals try exact xO
        (refine zNx (m+1,js3) ?_;(try dsimp only))
        exact⟨hml,hj3⟩
       | some nv =>
        rw[hlk] at hrm;rw[show(some nv:Option Int).toList=[]++[nv] from rfl] at hrm;(repeat' (first |  (refine I.WC.region (id:=21) ?_)|((first|apply ZVi|apply ZVl);exact yF;dsimp only[ZC,z0,z1])|refine ZVj ?_|refine WD.nil ?_|refine ZA fun Kx hK=>?_|(refine hK _ _ ?_;clear hK)|refine ZVk ?_|(apply ZWB;kernel_rfl;kernel_rfl)|((first|apply Zq|apply Zl);exact eD;exact ZVh rfl;exact oD;(intro _;exact hD);(exact(by simp));(exact(by simp));(first|exact⟨by decide,by decide⟩|skip);decide;exact lD;(intro _;dsimp only[ZC,z0,z1]);all_goals (try infer_instance))|((first|apply ZVi|apply ZVl);(focus ((first|(refine ZCK (D:=fun z=>dP 1 false (dS (ZF4 kvS RI) z)) en0 (ZV8 (R:=ZF4 kvS RI) (_gR:=inferInstance) (k:=j) ZUf (ZVh rfl) (ZWD rfl (ZCO (by omega))) n0))|(apply ZVy;exact ZUo;exact ZVh rfl)|(exact ZA4 (ZVh rfl))|(refine ZW ZCc (ZVh rfl) (ZWI _) rfl rfl)|(apply ZVy;exact ZUn;exact ZVh rfl)|(apply ZVy;exact tyMp;exact ZVh rfl)|(apply ZVm (cK) Tryz.call69;exact aD)|(refine ZMz (a0:=(0:Int)) ZE2 ZBa (ZVh rfl) (ZVh rfl) isX (ZAH hc) hk0.1 hk0.2 (fun _ _=>rfl) hlk)|((first|apply ZVo|apply ZVn|apply ZVq|apply ZVw) <;> exact oD)|((first|apply ZV2|apply ZWM) <;> first|exact oD|omega)|(apply ZV8;exact eD;exact oD;exact oD;exact kD)|(apply ZWG;exact oD;rfl)|fail);all_goals infer_instance));dsimp only[ZC,z0,z1])|(apply Zf;exact oD;(with_reducible rfl))|(apply ZB;exact oD;all_goals (intro h;try exact xD))|refine ZVr ?_|refine ZVp ?_))
        all_goals try exact xO
        iterate 4 (refine I.WL.op rfl (ZVo (ZVh rfl)) ?_;dsimp only[ZC,z0,z1])
        refine I.WL.op rfl (ZVm cK Tryz.call69 (ZV9 (ZVh rfl) ZWJ)) ?_;dsimp only[ZC,z0,z1];refine I.WL.op rfl (ZEp (a0:=([]:List Int)) ZFe ZBa (ZVh rfl) (ZVh rfl) isX (ZAH hc) hokc hndc (fun _ _=>ZB5)) ?_;dsimp only[ZC,z0,z1];refine I.WL.app1 elI (R:=RI) (_gR:=inferInstance) (ZVh rfl) (ZVh rfl) (by decide) (by simp only[List.length_append,List.length_cons,List.length_nil];omega) fun v2=>?_;dsimp only[ZC,z0,z1];refine I.ZDR (s:=108) rfl ?_;dsimp only[ZC,z0,z1];rw[<- hrm];refine I.WL.perm ZFj.symm (I.WL.yield (pre:=ZMK l f L j++(ZFC l f L (j+1)).take m) (y:=ZQv txS (ZT (j+1)) L F[m] (j+1)) hY hlt r2 (ZVh rfl) (ZVh rfl) fun js3 hj3=>I.WL.perm ZFj ?_);dsimp only[ZC,z0,z1];rw[List.append_assoc,<- hsn] at hj3;refine I.WL.op rfl (ZJe (ZVh rfl)) ?_;dsimp only[ZC,z0,z1];refine I.WL.nil ?_;((repeat' (first|refine zS ?_|(refine hK _ _ ?_;clear hK)|(apply zV;exact yG;exact zQ)|(apply ZQ;exact oD;(with_reducible rfl))|refine ZVr ?_|refine ZVx ?_));all_goals ((repeat clear hK);repeat clear Kx))
        all_goals try exact xO
        (refine zNx (m+1,js3) ?_;(try dsimp only))
        exact⟨hml,hj3⟩
      ·have hmlI:¬ (m:Int)<(F.length:Int):=by omega
       rw[List.take_of_length_le (by rw[hrk,List.length_map];omega),<- ZG0] at r2;((repeat' (first|refine zS ?_|refine ZA fun Kx hK=>?_|(refine hK _ _ ?_;clear hK)|(refine ZV0 ?_;clear hK)|(apply zV;exact yG;exact zQ)|(apply ZB;exact oD;all_goals (intro h;try exact xD))|refine ZV1 ?_|refine ZVx ?_));all_goals ((repeat clear hK);repeat clear Kx))
       all_goals try exact xO
       rw[show(j:Int)+1+1=((j+1:Nat):Int)+1 by omega];(refine zNx (j+1,js2) ?_;(try dsimp only))
       exact⟨by omega,r2⟩
  ·have hjd':j=d-1:=by omega
   have hjI:¬ ((j:Int)+1)<(L.length:Int):=by omega
   refine ZWe ZFj.symm ?_;((repeat' (first|refine zS ?_|refine ZA fun Kx hK=>?_|(refine hK _ _ ?_;clear hK)|(apply zV;(focus ((first|(apply ZVy;exact ZUo;exact ZVh rfl)|(exact ZA4 (ZVh rfl))|(refine ZW ZCc (ZVh rfl) (ZWI _) rfl rfl)|(apply ZVy;exact ZUm;exact ZVh rfl)|(apply ZVu;exact ZVh rfl;exact ZB0;exact ZAK.unt)|exact yG);all_goals infer_instance));exact zQ)|(apply ZB;exact oD;all_goals (intro h;try exact xD))|refine ZV1 ?_|refine ThenD.x ?_|refine InBlockD.x ?_));all_goals ((repeat clear hK);repeat clear Kx))
   all_goals try exact xO
   subst hjd';exact⟨trivial,js1++[_,_,_],by simp,js1,hJ,rfl⟩⟩
end
section
open Go.RowKit
open L05 (plus ZBw)



theorem ZHP (a b:List Int) (hl:a.length+b.length≤100000):Fn Tryz.prog 133 [dS ZAQ a,dS ZAQ b] (dS ZAQ (plus a b)):=by
 have hk:(a.length:Int)+(b.length:Int)=((a.length+b.length:Nat):Int):=by omega
 refine zE Tryz.func133 61 ?_;(repeat' (first|(apply zV;exact yF;exact zQ)|refine ZVj ?_|refine ZA fun Kx hK=>?_|(refine hK _ _ ?_;clear hK)|refine ZVk ?_ |  (refine ZRL (R:=RI) (_gR:=inferInstance) (k:=a.length+b.length) elI (ZVh rfl) hk (by omega) (by simp only[maxLen];omega) fun v=>?_;dsimp only[ZC,z0,z1])|((first|apply ZF|apply WD.op);(focus (first|exact wN|(apply ZVt;exact wY;((first|((first|apply ZV2) <;> first|exact oD|omega)|(apply ZVu;exact oD;exact nD;exact uD)|fail);all_goals infer_instance))));dsimp only[ZC,z0,z1])|refine ZVp ?_))
 all_goals try exact xO
 (refine ZV4 (X:=Value × List Int × List Int × List Int) (fun x=>[(0,dS ZAQ x.2.2.1),(1,dS ZAQ x.2.2.2),(5,dX x.1),(12,dA),(13,dA),(14,dA),(15,dA),(16,dA),(17,dA),(18,dA),(19,dA),(20,dA),(21,dA),(22,dA),(23,dA),(24,dA),(25,dA),(26,dA),(27,dA),(28,dA),(29,dA),(30,dA),(31,dA),(32,dA),(33,dA),(34,dA),(35,dA),(36,dA),(37,dA),(38,dA),(39,dA),(40,dA),(41,dA),(42,dA),(43,dA),(44,dA),(45,dA),(46,dA),(47,dA),(48,dA),(49,dA),(50,dA),(51,dA),(52,dA),(53,dA),(54,dA),(55,dA)]) (fun x=>[Zk x.1 3 RI x.2.1]) (fun x=>x.2.2.1.length+x.2.2.2.length) (fun x=>x.2.1.length+x.2.2.1.length+x.2.2.2.length≤a.length+b.length/\x.2.1++plus x.2.2.1 x.2.2.2=plus a b) (v,[],a,b) ?start ?frame0 ?objs0 ?round)
 case start=>exact⟨by simp,rfl⟩
 case frame0=>exact zFr
 case objs0=>rfl
 case round =>
  rintro⟨vo,out,c,d⟩ ⟨h1,h2⟩;simp only at h1 h2;dsimp only[ZH,z0,z1];have h8:(out.length+1)*8≤140737488355328:=by omega
  cases c with
  | nil =>
   have hd0:¬ (([]:List Int).length:Int)>0:=by simp
   have h9:(out.length+([]:List Int).length)*8≤140737488355328:=by simp;omega
   have h10:((out++([]:List Int)).length+d.length)*8≤140737488355328:=by simp at h1 ⊢;omega
   rw[L05.nil_plus] at h2;have h11:out++[]++d=plus a b:=by rw[List.append_nil];exact h2
   ((repeat' (first|refine zS ?_|refine ZA fun Kx hK=>?_|(refine hK _ _ ?_;clear hK)|(refine ZV0 ?_;clear hK)|((first|apply ZWW|apply ZWX);exact eD;exact ZVh rfl;exact oD;decide;exact lD;(intro _;dsimp only[ZC,z0,z1]);all_goals (try infer_instance))|((first|apply ZF|apply WD.op);(focus (first|exact wN|(apply ZVt;exact wY;((first|exact yG|fail);all_goals infer_instance))));dsimp only[ZC,z0,z1])|((first|refine ZM rfl rfl rfl (fun h=>?_) (fun h=>?_)|refine ZL rfl rfl rfl (fun h=>?_) (fun h=>?_)|refine ZK rfl rfl rfl (fun h=>?_) (fun h=>?_)|refine Za rfl rfl rfl (fun h=>?_) (fun h=>?_)|refine ZX rfl rfl rfl (fun h=>?_) (fun h=>?_)|refine ZV rfl rfl rfl (fun h=>?_) (fun h=>?_)) <;> (first|(exfalso;first|omega|contradiction)|(dsimp only[z0,z1])))|(apply ZQ;exact oD;(with_reducible rfl))|refine ZVs ?_|refine ZV1 ?_));all_goals ((repeat clear hK);repeat clear Kx))
   all_goals try exact xO
   rw[h11];(refine⟨trivial,_,rfl,?_⟩;exact fD)
  | cons x c =>
   have hc0:(((x::c).length:Nat):Int)>0:=by simp
   cases d with
   | nil =>
    have hd0:¬ (([]:List Int).length:Int)>0:=by simp
    rw[L05.plus_nil] at h2;have h9:(out.length+(x::c).length)*8≤140737488355328:=by simp only[List.length_cons] at h1 ⊢;omega
    have h10:((out++(x::c)).length+([]:List Int).length)*8≤140737488355328:=by simp only[List.length_append,List.length_cons,List.length_nil] at h1 ⊢;omega
    have h11:out++(x::c)++[]=plus a b:=by rw[List.append_nil];exact h2
    ((repeat' (first|refine zS ?_|refine ZA fun Kx hK=>?_|(refine hK _ _ ?_;clear hK)|(refine ZV0 ?_;clear hK)|((first|apply ZWW|apply ZWX);exact eD;exact ZVh rfl;exact oD;decide;exact lD;(intro _;dsimp only[ZC,z0,z1]);all_goals (try infer_instance))|((first|apply ZF|apply WD.op);(focus (first|exact wN|(apply ZVt;exact wY;((first|exact yG|fail);all_goals infer_instance))));dsimp only[ZC,z0,z1])|((first|refine ZM rfl rfl rfl (fun h=>?_) (fun h=>?_)|refine ZL rfl rfl rfl (fun h=>?_) (fun h=>?_)|refine ZK rfl rfl rfl (fun h=>?_) (fun h=>?_)|refine Za rfl rfl rfl (fun h=>?_) (fun h=>?_)|refine ZX rfl rfl rfl (fun h=>?_) (fun h=>?_)|refine ZV rfl rfl rfl (fun h=>?_) (fun h=>?_)) <;> (first|(exfalso;first|omega|contradiction)|(dsimp only[z0,z1])))|(apply ZB;exact oD;all_goals (intro h;try exact xD))|refine ZVs ?_|refine ZV1 ?_));all_goals ((repeat clear hK);repeat clear Kx))
    all_goals try exact xO
    rw[h11];(refine⟨trivial,_,rfl,?_⟩;exact fD)
   | cons y d =>
    have hd0:(((y::d).length:Nat):Int)>0:=by simp
    have k1:0<(x::c).length:=by simp
    have km1:(x::c).length=c.length+1:=rfl;have km2:(y::d).length=d.length+1:=rfl;have k2:0<(y::d).length:=by simp
    rw[L05.plus] at h2;simp only[List.length_cons] at h1;by_cases hxy:x<y
    ·rw[if_pos hxy] at h2;((repeat' (first |  (refine WC.drawM (fun _=>True) 9 1 [(0,false),(1,false),(2,false),(3,false),(4,false),(6,false),(7,false),(5,true),(8,false)] [true,true,true,true,true,true,true,true,true,false] (by kernel_rfl) (by kernel_rfl) (by kernel_rfl) rfl (trivial) ?_) |  (first|refine WA.one (S:=[true,true,true,true,true,true,true,true,true,false]) (i:=9) (by kernel_rfl) rfl ?_|refine WA.nil (S:=[true,true,true,true,true,true,true,true,true,true]) (by kernel_rfl) ?_) |  (refine ZBX rfl (SW.app1 elI (R:=RI) (_gR:=inferInstance) (ZVh rfl) (ZVh rfl) (by decide) h8) (fun _=>trivial) fun v2=>?_;dsimp only[ZC,z0,z1])|(refine WM.nil ?_)|(apply WM.readL rfl;(focus (intro c hcc;apply ZVt;(exact ZY rfl);((first|(exact Zg (R:=RI) (_gR:=inferInstance) (k:=0) elI k1 rfl (ZVh rfl) ZV5)|(exact Zg (R:=RI) (_gR:=inferInstance) (k:=0) elI k2 rfl (ZVh rfl) ZV5)|(exact ZGf (R:=RI) (_gR:=inferInstance) elI (ZVh rfl) ZV5)|((first|apply ZVo|apply ZVn|apply ZVq|apply ZV6) <;> exact oD)|(apply ZVy;exact tD;exact oD)|(apply ZWb;exact eD;((try simp only[List.map_cons,List.map_nil]);(repeat (first|exact Zr|(apply Zp;(first|exact ZVh rfl|exact ZV5|exact ZWE|exact ZWD rfl (by first|exact ZN|exact ZJ (by decide))|exact⟨ZN⟩|exact⟨ZJ (by decide)⟩)))));rfl;rfl;(intro _;first|exact ZAd|exact ZAS|exact ZAI|exact shape_B);(exact(by simp)))|fail);all_goals infer_instance)));dsimp only[ZC,z0,z1])|((first|apply ZVi|apply ZVl);exact yF;dsimp only[ZC,z0,z1])|refine ZVj ?_|refine WD.nil ?_|refine ZA fun Kx hK=>?_|(refine hK _ _ ?_;clear hK)|refine ZVk ?_|(apply ZWB;kernel_rfl;kernel_rfl)|((first|apply ZF|apply WD.op);(focus (first|exact wN|(apply ZVt;exact wY;((first|(exact Zg (R:=RI) (_gR:=inferInstance) (k:=0) elI k1 rfl (ZVh rfl) ZV5)|(exact Zg (R:=RI) (_gR:=inferInstance) (k:=0) elI k2 rfl (ZVh rfl) ZV5)|((first|apply ZVo|apply ZVn|apply ZVq|apply ZV6) <;> exact oD)|(apply ZVu;exact oD;exact nD;exact uD)|(apply ZU;exact oD;(with_reducible rfl);exact oD)|fail);all_goals infer_instance))));dsimp only[ZC,z0,z1])|((first|refine ZM rfl rfl rfl (fun h=>?_) (fun h=>?_)|refine ZL rfl rfl rfl (fun h=>?_) (fun h=>?_)|refine ZK rfl rfl rfl (fun h=>?_) (fun h=>?_)|refine Za rfl rfl rfl (fun h=>?_) (fun h=>?_)|refine ZX rfl rfl rfl (fun h=>?_) (fun h=>?_)|refine ZV rfl rfl rfl (fun h=>?_) (fun h=>?_)) <;> (first|(exfalso;first|omega|contradiction)|(dsimp only[z0,z1])))|(apply ZB;exact oD;all_goals (intro h;try exact xD))|refine ZVr ?_|refine ZVp ?_|refine ZVx ?_|refine ZWc ?_));all_goals ((repeat clear hK);repeat clear Kx))
     all_goals try exact xO
     (refine zNx (_,out++[x],c,y::d) ?_;(try dsimp only))
     exact⟨by simp;omega,by rw[List.append_assoc];exact h2⟩
    ·rw[if_neg hxy] at h2;by_cases hyx:y<x
     ·rw[if_pos hyx] at h2;have hgt:x>y:=hyx;((repeat' (first |  (refine WC.drawM (fun _=>True) 9 1 [(0,false),(1,false),(2,false),(3,false),(4,false),(6,false),(7,false),(5,true),(8,false)] [true,true,true,true,true,true,true,true,true,false] (by kernel_rfl) (by kernel_rfl) (by kernel_rfl) rfl (trivial) ?_) |  (first|refine WA.one (S:=[true,true,true,true,true,true,true,true,true,false]) (i:=9) (by kernel_rfl) rfl ?_|refine WA.nil (S:=[true,true,true,true,true,true,true,true,true,true]) (by kernel_rfl) ?_) |  (refine ZBX rfl (SW.app1 elI (R:=RI) (_gR:=inferInstance) (ZVh rfl) (ZVh rfl) (by decide) h8) (fun _=>trivial) fun v2=>?_;dsimp only[ZC,z0,z1])|(refine WM.nil ?_)|(apply WM.readL rfl;(focus (intro c hcc;apply ZVt;(exact ZY rfl);((first|(exact Zg (R:=RI) (_gR:=inferInstance) (k:=0) elI k1 rfl (ZVh rfl) ZV5)|(exact Zg (R:=RI) (_gR:=inferInstance) (k:=0) elI k2 rfl (ZVh rfl) ZV5)|(exact ZGf (R:=RI) (_gR:=inferInstance) elI (ZVh rfl) ZV5)|((first|apply ZVo|apply ZVn|apply ZVq|apply ZV6) <;> exact oD)|(apply ZVy;exact tD;exact oD)|(apply ZWb;exact eD;((try simp only[List.map_cons,List.map_nil]);(repeat (first|exact Zr|(apply Zp;(first|exact ZVh rfl|exact ZV5|exact ZWE|exact ZWD rfl (by first|exact ZN|exact ZJ (by decide))|exact⟨ZN⟩|exact⟨ZJ (by decide)⟩)))));rfl;rfl;(intro _;first|exact ZAd|exact ZAS|exact ZAI|exact shape_B);(exact(by simp)))|fail);all_goals infer_instance)));dsimp only[ZC,z0,z1])|((first|apply ZVi|apply ZVl);exact yF;dsimp only[ZC,z0,z1])|refine ZVj ?_|refine WD.nil ?_|refine ZA fun Kx hK=>?_|(refine hK _ _ ?_;clear hK)|refine ZVk ?_|(apply ZWB;kernel_rfl;kernel_rfl)|((first|apply ZF|apply WD.op);(focus (first|exact wN|(apply ZVt;exact wY;((first|(exact Zg (R:=RI) (_gR:=inferInstance) (k:=0) elI k1 rfl (ZVh rfl) ZV5)|(exact Zg (R:=RI) (_gR:=inferInstance) (k:=0) elI k2 rfl (ZVh rfl) ZV5)|((first|apply ZVo|apply ZVn|apply ZVq|apply ZV6) <;> exact oD)|(apply ZVu;exact oD;exact nD;exact uD)|(apply ZU;exact oD;(with_reducible rfl);exact oD)|fail);all_goals infer_instance))));dsimp only[ZC,z0,z1])|((first|refine ZM rfl rfl rfl (fun h=>?_) (fun h=>?_)|refine ZL rfl rfl rfl (fun h=>?_) (fun h=>?_)|refine ZK rfl rfl rfl (fun h=>?_) (fun h=>?_)|refine Za rfl rfl rfl (fun h=>?_) (fun h=>?_)|refine ZX rfl rfl rfl (fun h=>?_) (fun h=>?_)|refine ZV rfl rfl rfl (fun h=>?_) (fun h=>?_)) <;> (first|(exfalso;first|omega|contradiction)|(dsimp only[z0,z1])))|(apply ZB;exact oD;all_goals (intro h;try exact xD))|refine ZVr ?_|refine ZVp ?_|refine ZVx ?_|refine ZWc ?_));all_goals ((repeat clear hK);repeat clear Kx))
      all_goals try exact xO
      (refine zNx (_,out++[y],x::c,d) ?_;(try dsimp only))
      exact⟨by simp;omega,by rw[List.append_assoc];exact h2⟩
     ·rw[if_neg hyx] at h2;have hgt:¬ x>y:=hyx;((repeat' (first|refine zS ?_|refine WD.nil ?_|refine ZA fun Kx hK=>?_|(refine hK _ _ ?_;clear hK)|(apply ZWB;kernel_rfl;kernel_rfl)|((first|apply ZF|apply WD.op);(focus (first|exact wN|(apply ZVt;exact wY;((first|(exact Zg (R:=RI) (_gR:=inferInstance) (k:=0) elI k1 rfl (ZVh rfl) ZV5)|(exact Zg (R:=RI) (_gR:=inferInstance) (k:=0) elI k2 rfl (ZVh rfl) ZV5)|(exact ZGf (R:=RI) (_gR:=inferInstance) elI (ZVh rfl) ZV5)|exact yG|fail);all_goals infer_instance))));dsimp only[ZC,z0,z1])|((first|refine ZM rfl rfl rfl (fun h=>?_) (fun h=>?_)|refine ZL rfl rfl rfl (fun h=>?_) (fun h=>?_)|refine ZK rfl rfl rfl (fun h=>?_) (fun h=>?_)|refine Za rfl rfl rfl (fun h=>?_) (fun h=>?_)|refine ZX rfl rfl rfl (fun h=>?_) (fun h=>?_)|refine ZV rfl rfl rfl (fun h=>?_) (fun h=>?_)) <;> (first|(exfalso;first|omega|contradiction)|(dsimp only[z0,z1])))|(apply ZB;exact oD;all_goals (intro h;try exact xD))|refine ZVr ?_|refine ZVp ?_|refine ZVx ?_|refine ZWc ?_));all_goals ((repeat clear hK);repeat clear Kx))
      all_goals try exact xO
      (refine zNx (_,out,c,d) ?_;(try dsimp only))
      exact⟨by omega,h2⟩
section
variable {P:Program} {ops:Array Oper} {hp:List HObj} {fr:List Dat} {dst:Option Tmp} {ty:TypeId} {ps:String} {af:Array Edge} {g:Option (Nat × Bool)} {T T2:TypeId} {x y:Operand} {p q c:Int}
theorem ZRB (h:p.tmod q=c) (h0:q≠0) (hx:OpD fr x (dI p)) (hy:OpD fr y (dI q)):SY P ops hp ⟨dst,.binOp .rem T x y T2,ty,ps,af,g⟩ fr (dI c):=h ▸ ZWa hx hy h0
theorem ZRA (h:p.tdiv q=c) (h0:q≠0) (hr : -9223372036854775808≤c/\c≤9223372036854775807) (hx:OpD fr x (dI p)) (hy:OpD fr y (dI q)):SY P ops hp ⟨dst,.binOp .quo T x y T2,ty,ps,af,g⟩ fr (dI c):=h ▸ SY.quo hx hy h0 (h ▸ hr)
theorem ZL4 (h:p-q=c) (hr : -9223372036854775808≤c/\c≤9223372036854775807) (hx:OpD fr x (dI p)) (hy:OpD fr y (dI q)):SY P ops hp ⟨dst,.binOp .sub T x y T2,ty,ps,af,g⟩ fr (dI c):=h ▸ ZWM hx hy (h ▸ hr)
theorem ZIH (h:p+q=c) (hr : -9223372036854775808≤c/\c≤9223372036854775807) (hx:OpD fr x (dI p)) (hy:OpD fr y (dI q)):SY P ops hp ⟨dst,.binOp .add T x y T2,ty,ps,af,g⟩ fr (dI c):=h ▸ ZV2 hx hy (h ▸ hr)
end
theorem quo2 (n:Nat):((n:Int)).tdiv 2=((n / 2:Nat):Int):=by
 rw[Int.tdiv_eq_ediv_of_nonneg (by omega)];omega
theorem rem2 (n:Nat):((n:Int)).tmod 2=((n % 2:Nat):Int):=by
 rw[Int.tmod_eq_emod_of_nonneg (by omega)];omega
theorem ZPm (a b:List Int) (ha:L05.Asc a) (hb:L05.Asc b) (hl:a.length+b.length≤100000):Fn Tryz.prog 105 [dS ZAQ a,dS ZAQ b] (dB (ZBw a b)):=by
 have hs:=ZHP a b hl;have hpl:=L05.plus_len _ a b (Nat.le_refl _) ha hb;rw[L05.odd_len ha hb];obtain⟨q,hq⟩:∃q,(plus a b).length=q:=⟨_,rfl⟩;rw[hq] at hpl ⊢;have e1:(a.length:Int)+(b.length:Int)-((plus a b).length:Int)=((a.length+b.length-q:Nat):Int):=by omega
 obtain⟨n,hn⟩:∃n,a.length+b.length-q=n:=⟨_,rfl⟩;rw[hn] at e1 ⊢;have e2:=quo2 n;have e3:=rem2 (n / 2);have e4:decide (((n / 2 % 2:Nat):Int)=1)=decide (n / 2 % 2=1):=by
  by_cases h:n / 2 % 2=1
  ·rw[decide_eq_true h,decide_eq_true (by omega)]
  ·rw[decide_eq_false h,decide_eq_false (by omega)]
 have hnb:n≤100000:=by omega
 refine zE Tryz.func105 18 ?_;((repeat' (first|refine zS ?_|refine ZA fun Kx hK=>?_|(refine hK _ _ ?_;clear hK)|(apply zV;(focus ((first|(apply ZVm (hs) Tryz.call133;exact aD)|(exact ZL4 e1 (by omega) (ZVh rfl) (ZVh rfl))|(exact ZRA e2 (by decide) (by omega) (ZVh rfl) ZV5)|(exact ZRB e3 (by decide) (ZVh rfl) ZV5)|exact yG);all_goals infer_instance));exact zQ)|refine ZVs ?_));all_goals ((repeat clear hK);repeat clear Kx))
 all_goals try exact xO
 rw[e4];(refine⟨trivial,_,rfl,?_⟩;exact fD)
end
end Go.Proofs.YtofkoleingbbpaaGreatDoor
