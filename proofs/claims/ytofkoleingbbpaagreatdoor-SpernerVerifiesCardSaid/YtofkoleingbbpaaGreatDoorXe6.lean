/- Part 6: walks by contracts, and plain laws. -/
import Derived.Test.YtofkoleingbbpaaGreatDoorXe5
set_option linter.unusedVariables false
set_option linter.unusedSimpArgs false
set_option linter.unusedSectionVars false
set_option maxRecDepth 100000
set_option maxHeartbeats 64000000
namespace Go.Proofs.YtofkoleingbbpaaGreatDoor
section
open Go.RowKit
open C34

def ZNz (s:List Vx):Nat->Cx->Int
 | _,[]=>-1
 | i,x::l=>if x=s then(i:Int) else ZNz s (i+1) l
theorem ZMf {s:List Vx}:∀ {l:Cx} {i:Nat},decide (0≤ZNz s i l)=decide (s∈l)
 | [],_=>by simp[ZNz]
 | x::l,i=>by
  unfold ZNz;by_cases h:x=s
  ·rw[if_pos h];subst h;simp
  ·rw[if_neg h,ZMf];have h':¬ s=x:=fun e=>h e.symm;simp[h']
theorem ZPy (l:Cx) (s:List Vx):Fn Tryz.prog 118 [dS Zh l,dS ZM s] (dI (ZNz s 0 l)):=by
 obtain⟨o,ho⟩:∃o,ZNz s 0 l=o:=⟨_,rfl⟩;rw[ho];(refine ZE Tryz.func118 rfl rfl ?_;simp only[Tryz.ntmps118,List.length_cons,List.length_nil,Nat.reduceAdd,Nat.reduceSub,List.replicate_succ,List.replicate_zero,List.cons_append,List.nil_append])
 (first|refine ZR (t:=0) rfl ZEH fun hl0=>?_|refine ZR (t:=0) rfl ZDu fun hl0=>?_|refine ZR (t:=0) rfl ZJS fun hl0=>?_);simp only[maxLen] at hl0
 (repeat' (first|(apply WL.opN;exact yF;dsimp only[ZC,z0,z1])|refine WL.nil ?_|refine ZA fun Kx hK=>?_|(refine hK _ _ ?_;clear hK)|refine WC.region ?_|refine WC.block ?_))
 all_goals try (exfalso;first|contradiction|omega)
 (refine WC.loopU (X:=Nat) (fun k=>[(5,dI (k:Int)),(4,dA),(6,dA),(7,dA),(8,dA),(9,dA),(10,dA),(11,dA),(12,dA),(13,dA),(14,dA),(15,dA),(16,dA),(17,dA),(18,dA)]) (fun k=>[]) (fun k=>l.length-k) (fun k=>k≤l.length/\ZNz s k (l.drop k)=o) 0 ?start ?frame0 ?objs0 ?round)
 case start=>exact⟨Nat.zero_le _,ho⟩
 case frame0=>exact zFr
 case objs0=>rfl
 case round =>
  rintro k ⟨hk,hE⟩;dsimp only[ZL,z0,z1];by_cases hkl:k<l.length
  ·have hkI:(k:Int)<(l.length:Int):=by omega
   have c1:=ZQK l[k] s;rw[List.drop_eq_getElem_cons hkl] at hE;unfold ZNz at hE;by_cases h:l[k]=s
   ·rw[if_pos h] at hE;subst hE;rw[decide_eq_true (ZBM.2 h)] at c1;((repeat' (first|(apply WL.opN;exact yF;dsimp only[ZC,z0,z1])|refine WL.nil ?_|refine ZA fun Kx hK=>?_|(refine hK _ _ ?_;clear hK)|refine WC.region ?_|(apply WL.opN;(focus ((first|(refine SY.ix (R:=ZM) (_gR:=inferInstance) (k:=k) ZB9 (OpD.t rfl) (OpD.t rfl) hkl)|(apply SY.call (c1) Tryz.call38;(exact aD))|((first|apply SY.move|apply SY.assign|apply SY.lss) <;> (exact oD))|(apply SY.len;(exact oD);(exact nD);(exact uD))|fail);all_goals infer_instance));dsimp only[ZC,z0,z1])|(apply Zc;(exact oD);(with_reducible rfl))|(apply ZB;(exact oD);all_goals (intro h;try exact xD))|refine WC.skip ?_|refine WC.ret ?_|refine WC.block ?_|refine ThenD.r ?_|refine InBlockD.r ?_));all_goals (first|((repeat clear hK);(repeat clear Kx))))
    all_goals try (exfalso;first|contradiction|omega)
    (refine⟨trivial,_,rfl,?_⟩;exact fD)
   ·rw[if_neg h] at hE;rw[decide_eq_false (fun e=>h (ZBM.1 e))] at c1;((repeat' (first|(apply WL.opN;exact yF;dsimp only[ZC,z0,z1])|refine WL.nil ?_|refine ZA fun Kx hK=>?_|(refine hK _ _ ?_;clear hK)|refine WC.region ?_|(apply WL.opN;(focus ((first|(refine SY.ix (R:=ZM) (_gR:=inferInstance) (k:=k) ZB9 (OpD.t rfl) (OpD.t rfl) hkl)|(apply SY.call (c1) Tryz.call38;(exact aD))|((first|apply SY.move|apply SY.assign|apply SY.lss) <;> (exact oD))|((first|apply SY.add) <;> first|exact oD|omega)|(apply SY.len;(exact oD);(exact nD);(exact uD))|fail);all_goals infer_instance));dsimp only[ZC,z0,z1])|(apply ZQ;(exact oD);(with_reducible rfl))|(apply ZB;(exact oD);all_goals (intro h;try exact xD))|refine WC.skip ?_|refine WC.block ?_|refine ThenD.n ?_));all_goals (first|((repeat clear hK);(repeat clear Kx))))
    all_goals try (exfalso;first|contradiction|omega)
    (refine zNx (k+1) ?_;(try dsimp only))
    exact⟨hkl,hE⟩
  ·have hkI:¬ (k:Int)<(l.length:Int):=by omega
   rw[List.drop_of_length_le (by omega)] at hE;have h0:o = -1:=by rw[<- hE];rfl
   subst h0;((repeat' (first|(apply WL.opN;exact yF;dsimp only[ZC,z0,z1])|refine WL.nil ?_|refine ZA fun Kx hK=>?_|(refine hK _ _ ?_;clear hK)|(refine Kont.skip ?_;clear hK)|refine WC.region ?_|(apply WL.opN;(focus ((first|((first|apply SY.move|apply SY.assign|apply SY.lss) <;> (exact oD))|(apply SY.len;(exact oD);(exact nD);(exact uD))|fail);all_goals infer_instance));dsimp only[ZC,z0,z1])|(apply ZB;(exact oD);all_goals (intro h;try exact xD))|refine WC.ret ?_|refine WC.exit ?_));all_goals (first|((repeat clear hK);(repeat clear Kx))))
   all_goals try (exfalso;first|contradiction|omega)
   (refine⟨trivial,_,rfl,?_⟩;exact fD)
end
section
open Go.RowKit
open C34
theorem ZDX (m k:Nat):ZQs (m:Int) ((k:Int)+1)=((m >>> (min (k+1) 64):Nat):Int):=by
 unfold ZQs;rw[show((k:Int)+1).toNat=k+1 by omega,Nat.shiftRight_eq_div_pow];rw[Int.fdiv_eq_ediv_of_nonneg _ (by exact Int.le_of_lt (Int.pow_pos (by decide)))];simp
theorem ZE6 {f:Vx->Int} (hf:∀v,0≤f v/\f v<256) (n:Nat):∀(t:List Vx) (m0:Nat),m0<256->∃m:Nat,m<256/\t.foldl (fun m v=>ior m (f v)) (m0:Int)=(m:Int)/\(m >>> n=0↔m0 >>> n=0/\∀v∈t,(f v).toNat >>> n=0)
 | [],m0,h=>⟨m0,h,rfl,by simp⟩
 | v::t,m0,h=>by
  obtain⟨x,hx⟩:∃x:Nat,f v=(x:Int):=⟨(f v).toNat,by have:=(hf v).1;omega⟩;have hx2:x<256:=by have:=(hf v).2;omega
  have hor:m0 ||| x<256:=Nat.or_lt_two_pow (n:=8) h hx2;obtain⟨m,h1,h2,h3⟩:=ZE6 hf n t (m0 ||| x) hor;refine⟨m,h1,?_,?_⟩
  ·rw[List.foldl_cons,hx,ZIq (by omega) (by omega)];exact h2
  ·rw[h3,Nat.shiftRight_or_distrib,Nat.or_eq_zero_iff];have hv:(f v).toNat=x:=by rw[hx];rfl
   simp only[List.mem_cons,forall_eq_or_imp,hv];exact and_assoc
theorem ZFi {f:Vx->Int} (hf:∀v,0≤f v/\f v<256) (s:List Vx) (k:Nat):decide (ZQs (orL f s) ((k:Int)+1)=0)=ZAi f (k:Int) s:=by
 obtain⟨m,_,h2,h3⟩:=ZE6 hf (min (k+1) 64) s 0 (by decide);have e:orL f s=(m:Int):=h2;rw[e,ZDX];unfold ZAi;have h4:(((m >>> min (k+1) 64:Nat):Int)=0)↔m >>> min (k+1) 64=0:=by omega
 have h5:decide (((m >>> min (k+1) 64:Nat):Int)=0)=decide (m >>> min (k+1) 64=0):=decide_eq_decide.2 h4;rw[h5];cases hq:s.any (ZHh f (k:Int)) with
 | true =>
  obtain⟨v,hv,ho⟩:=List.any_eq_true.1 hq;have:¬ m >>> min (k+1) 64=0:=fun h=>by
   have:=(h3.1 h).2 v hv;unfold ZHh at ho;have hx:f v=((f v).toNat:Int):=by have:=(hf v).1;omega
   rw[hx,ZDX,this] at ho;simp at ho
  simp[this]
 | false =>
  have:m >>> min (k+1) 64=0:=h3.2 ⟨by simp,fun v hv=>by
   have ho:=List.any_eq_false.1 hq v hv;unfold ZHh at ho;have hx:f v=((f v).toNat:Int):=by have:=(hf v).1;omega
   rw[hx,ZDX] at ho;simp only[Bool.not_eq_true,Bool.not_eq_false',decide_eq_true_eq] at ho;omega⟩
  simp[this]
end
section
open Go.RowKit
open C34
theorem ZPv {lv:Cx} {g:List Vx} {k:Nat} (hlv:∀s∈lv,ZAC s=0/\s.length=k+1) (hg:ZAC g=0/\g.length=k):decide (ZBt lv g % 2=1)=ZPu (ZX k) lv g:=by
 unfold ZPu ZBt;have h0:∀A B:Nat,A=B->(A % 2=1↔B % 2=1):=fun A B e=>by rw[e]
 refine decide_eq_decide.2 (h0 _ _ (congrArg List.length (List.filter_congr fun s hs=>?_)));have h1:=ZFo (Zi.1 hg.1).2.2.2 (Zi.1 (hlv s hs).1).2.2.2;have h2:=ZAy k s g;cases hq:Z8 g s with
 | true =>
  have h3:=h2.2 ⟨h1.2 hq,hg.2⟩
  symm
  simpa using h3
 | false =>
  have h3:¬ g∈ZX k s:=fun h=>by
   have:=h1.1 (h2.1 h).1;rw[hq] at this;cases this
  symm
  simpa using h3
def ZQA (l:Cx) (f:Vx->Int) (k:Nat) (prev lv:Cx):Bool :=
 lv.all (ZAi f (k:Int)) && (decide (k=0) || (ZAl l k).all fun g=>!(ZF6 f (((2 ^ k:Nat):Int)-1) g && (decide (ZBt lv g % 2=1) != decide (0≤ZNz g 0 prev))))
theorem ZNe {l:Cx} {f:Vx->Int} {k:Nat} {prev lv:Cx} (he:(ZBf l).2=0) (hk:k≤8) (hlv:∀s∈lv,ZAC s=0/\s.length=k+1):ZQA l f k prev lv=ZNW l f k prev lv:=by
 unfold ZQA ZNW;by_cases h0:k=0
 ·rw[decide_eq_true h0,Bool.true_or,Bool.true_or]
 rw[decide_eq_false h0,Bool.false_or,Bool.false_or,ZCQ he (by omega) hk,List.all_filter];congr 1;have hck:∀s∈l,ZAC s=0:=(ZAY.1 (ZBI he).1).2.2.1;rw[Bool.eq_iff_iff,List.all_eq_true,List.all_eq_true];refine forall_congr' fun g=>forall_congr' fun hg=>?_;obtain⟨s,hs,hgs⟩:=ZB8.1 hg;have hgood:=ZA7 (hck s hs) (by omega) hgs;rw[ZPv hlv ⟨hgood.1,hgood.2.2⟩,ZMf];have hm:decide (g∈prev)=ZS3 prev g:=by unfold ZS3;exact decide_eq_decide.2 Iff.rfl
 rw[hm];generalize ZF6 f (((2 ^ k:Nat):Int)-1) g=x;generalize ZPu (ZX k) lv g=y;generalize ZS3 prev g=z;cases x <;> cases y <;> cases z <;> decide
end
section
open Go.RowKit
open C34

def ZS7 (l:Cx) (f:Vx->Int):Nat->Cx->List Cx->Bool
 | _,_,[]=>true
 | k,p,lv::L=>ZQA l f k p lv && ZS7 l f (k+1) lv L
theorem ZP9 {l:Cx} {f:Vx->Int} {L:List Cx} {k:Nat} (h:k<L.length):ZS7 l f k (ZDD L k) (L.drop k)=(ZQA l f k (ZDD L k) L[k] && ZS7 l f (k+1) (ZDD L (k+1)) (L.drop (k+1))):=by
 rw[List.drop_eq_getElem_cons h,ZEJ h];rfl
theorem ZKf {l:Cx} {f:Vx->Int} (he:(ZBf l).2=0):∀ {L:List Cx} {k:Nat} {p:Cx},k+L.length≤9->(∀j (h:j<L.length),∀s∈L[j],ZAC s=0/\s.length=k+j+1)->ZS7 l f k p L=ZSd l f k p L
 | [],_,_,_,_=>rfl
 | lv::L,k,p,hk,h=>by
  unfold ZS7 ZSd;rw[List.length_cons] at hk;rw[ZNe he (by omega) (fun s hs=>by have:=h 0 (by simp) s (by simpa using hs);simpa using this),ZKf he (by omega) fun j hj s hs=>by
   have:=h (j+1) (by simpa using hj) s (by simpa using hs);rw[show k+1+j+1=k+(j+1)+1 by omega];exact this]
def ZUi (l:Cx) (f:Vx->Int) (L:List Cx):Bool:=if((L.getD 0 []).length:Int).tmod 2=0 then false else ZS7 l f 0 [] L
def rvfP (l:Cx) (vs:List Vx) (A:List Int) (L:List Cx):Int:=if ZCE l vs A≠0 then ZCE l vs A else if ZG7 l L≠0 then ZG7 l L else if ZUi l (Zd vs A) L=false then 18 else 0
theorem ZSL (l:Cx) (vs:List Vx) (A:List Int) (L:List Cx):rvfP l vs A L=ZUo l vs A L:=by
 unfold rvfP ZUo;by_cases h1:ZCE l vs A≠0
 ·rw[if_pos h1,if_pos h1]
 rw[if_neg h1,if_neg h1];by_cases h2:ZG7 l L≠0
 ·rw[if_pos h2,if_pos h2]
 rw[if_neg h2,if_neg h2];have h1':ZCE l vs A=0:=Classical.byContradiction h1;have h2':ZG7 l L=0:=Classical.byContradiction h2;obtain⟨_,h8,hL⟩:=ZG8 h2';have:=ZKf (f:=Zd vs A) (ZD8 h1') (L:=L) (k:=0) (p:=[]) (by omega) fun j hj s hs=>by
  have:=hL j hj s hs;exact⟨this.1,by omega⟩
 unfold ZUi ZUY;rw[this];by_cases h3:((L.getD 0 []).length:Int).tmod 2=0
 ·rw[if_pos h3,if_pos rfl,if_pos h3];split <;> rfl
 ·rw[if_neg h3,if_neg h3]
end
section
open Go.RowKit
open C34

theorem ZED:∀ {vs:List Vx} {A:List Int},(∀a∈A,1≤a/\a<256)->∀v,0≤Zd vs A v/\Zd vs A v<256
 | u::vs,a::A,h,v=>by
  unfold Zd;by_cases e:u=v
  ·rw[if_pos e];have:=h a (by simp);omega
  ·rw[if_neg e];exact ZED (fun b hb=>h b (by simp[hb])) v
 | [],_,_,_=>by unfold Zd;omega
 | _::_,[],_,_=>by unfold Zd;omega
theorem ZN9 {P:Program} {ops:Array Oper} {hp:List HObj} {fr:List Dat} {dst:Option Tmp} {ty:TypeId} {ps:String} {af:Array Edge} {g:Option (Nat × Bool)} {T T2:TypeId} {p q:Int} {b:Bool} {x y:Operand} (h:decide (q≤p)=b) (hx:OpD fr x (dI p)) (hy:OpD fr y (dI q)):SY P ops hp ⟨dst,.binOp .geq T x y T2,ty,ps,af,g⟩ fr (dB b):=by
 have:=SY.geq (P:=P) (ops:=ops) (hp:=hp) (dst:=dst) (ty:=ty) (ps:=ps) (af:=af) (g:=g) (T:=T) (T2:=T2) hx hy;rwa[h] at this
theorem ZNd (l:Cx) (vs:List Vx) (A:List Int) (L:List Cx) (h:ZCE l vs A=0) (hfr:ZG7 l L=0) (hl:l.length≤100) (hLs:∀lv∈L,lv.length≤1000) (hlb:ZAW vs A=0):Fn Tryz.prog 72 [dS Cpx l,dS Lab (vs,A),dS ZFw L] (dB (ZUi l (Zd vs A) L)):=by
 obtain⟨hL1,hL8,hLok⟩:=ZG8 hfr;obtain⟨hv,hA,_,_,hAr⟩:=ZAp hlb;have hf:=ZED (vs:=vs) hAr;have hck:=(ZAY.1 (ZBI (ZD8 h)).1).2.2.1;have h8:∀s∈l,s.length≤8:=fun s hs=>(Zi.1 (hck s hs)).2.1;obtain⟨o,ho⟩:∃o,ZUi l (Zd vs A) L=o:=⟨_,rfl⟩;rw[ho];unfold ZUi at ho;obtain⟨f,hfe⟩:∃f,Zd vs A=f:=⟨_,rfl⟩;rw[hfe] at ho hf;have hL0:0<L.length:=by omega
 have el0:=ZF1 hL0;obtain⟨l0,hl0e⟩:∃l0,L.getD 0 []=l0:=⟨_,rfl⟩;rw[hl0e] at el0 ho;(refine ZE Tryz.func72 rfl rfl ?_;simp only[Tryz.ntmps72,List.length_cons,List.length_nil,Nat.reduceAdd,Nat.reduceSub,List.replicate_succ,List.replicate_zero,List.cons_append,List.nil_append])
 by_cases h2:(l0.length:Int).tmod 2=0
 ·rw[if_pos h2] at ho;subst ho;((repeat' (first|((first|apply WL.opN|apply WD.opN);exact yF;dsimp only[ZC,z0,z1])|refine WL.nil ?_|refine ZA fun Kx hK=>?_|(refine hK _ _ ?_;clear hK)|refine WC.region ?_|((first|apply ZF|apply WD.op);(focus (first|exact wN|(apply SYG.yes;(exact wY);((first|(exact SY.box (OpD.t rfl) ZAL)|(exact SY.box (OpD.t rfl) Z2)|(refine Z6 (D:=fun z=>dP 1 false (dS Zh z)) el0 (SY.ix (R:=Zh) (_gR:=inferInstance) (k:=0) ZAK (OpD.t rfl) OpD.i hL0))|(exact SY.rem (OpD.t rfl) OpD.i (by decide))|((first|apply SY.move|apply SY.assign|apply SY.lss|apply SY.geq|apply SY.eql|apply SY.neq|apply SY.not) <;> (exact oD))|(apply SY.len;(exact oD);(exact nD);(exact uD))|fail);all_goals infer_instance))));dsimp only[ZC,z0,z1])|(apply ZB;(exact oD);all_goals (intro h;try exact xD))|refine WC.ret ?_|refine ThenD.r ?_));all_goals (first|((repeat clear hK);(repeat clear Kx))))
  all_goals try (exfalso;first|contradiction|omega)
  (refine⟨trivial,_,rfl,?_⟩;exact fD)
 rw[if_neg h2] at ho;(repeat' (first|((first|apply WL.opN|apply WD.opN);exact yF;dsimp only[ZC,z0,z1])|refine WL.nil ?_|refine ZA fun Kx hK=>?_|(refine hK _ _ ?_;clear hK)|refine WC.region ?_|((first|apply ZF|apply WD.op);(focus (first|exact wN|(apply SYG.yes;(exact wY);((first|(exact SY.box (OpD.t rfl) ZAL)|(exact SY.box (OpD.t rfl) Z2)|(refine Z6 (D:=fun z=>dP 1 false (dS Zh z)) el0 (SY.ix (R:=Zh) (_gR:=inferInstance) (k:=0) ZAK (OpD.t rfl) OpD.i hL0))|(exact SY.rem (OpD.t rfl) OpD.i (by decide))|((first|apply SY.move|apply SY.assign|apply SY.lss|apply SY.geq|apply SY.eql|apply SY.neq|apply SY.not) <;> (exact oD))|(apply SY.len;(exact oD);(exact nD);(exact uD))|fail);all_goals infer_instance))));dsimp only[ZC,z0,z1])|(apply ZB;(exact oD);all_goals (intro h;try exact xD))|refine WC.skip ?_|refine WC.block ?_))
 all_goals try (exfalso;first|contradiction|omega)
 (refine WC.loopU (X:=Nat) (fun k=>[(7,dI (k:Int)),(6,dA),(8,dA),(9,dA),(10,dA),(17,dA),(18,dA),(19,dA),(20,dA),(21,dA),(22,dA),(23,dA),(24,dA),(25,dA),(26,dA),(27,dA),(28,dA),(29,dA),(30,dA),(31,dA),(32,dA),(33,dA),(34,dA),(35,dA),(36,dA),(37,dA),(38,dA),(39,dA),(40,dA),(41,dA),(42,dA),(43,dA),(44,dA),(45,dA),(46,dA),(47,dA),(48,dA),(49,dA),(50,dA),(51,dA),(52,dA),(53,dA),(54,dA),(55,dA),(56,dA),(57,dA),(58,dA),(59,dA),(60,dA),(61,dA),(62,dA),(63,dA),(64,dA),(65,dA),(66,dA),(67,dA),(68,dA),(69,dA),(70,dA),(71,dA),(72,dA),(73,dA),(74,dA),(75,dA),(76,dA),(77,dA),(78,dA),(79,dA),(80,dA),(81,dA),(82,dA),(83,dA),(84,dA),(85,dA)]) (fun k=>[]) (fun k=>L.length-k) (fun k=>k≤L.length/\ZS7 l f k (ZDD L k) (L.drop k)=o) 0 ?start ?frame0 ?objs0 ?round)
 case start=>exact⟨Nat.zero_le _,ho⟩
 case frame0=>exact zFr
 case objs0=>rfl
 case round =>
  rintro k ⟨hk,hE⟩;dsimp only[ZL,z0,z1];by_cases hkl:k<L.length
  ·have hkI:(k:Int)<(L.length:Int):=by omega
   rw[ZP9 hkl] at hE;have hlvb:=hLs _ (List.getElem_mem hkl);obtain⟨lv,hlv⟩:∃lv,L[k]=lv:=⟨_,rfl⟩;rw[hlv] at hlvb hE;obtain⟨X,hX⟩:∃X,ZS7 l f (k+1) (ZDD L (k+1)) (L.drop (k+1))=X:=⟨_,rfl⟩;rw[hX] at hE;unfold ZQA at hE;obtain⟨Y,hY⟩:∃Y,(decide (k=0) || (ZAl l k).all fun g=>!(ZF6 f (((2 ^ k:Nat):Int)-1) g && (decide (ZBt lv g % 2=1) != decide (0≤ZNz g 0 (ZDD L k)))))=Y:=⟨_,rfl⟩;rw[hY] at hE;(repeat' (first|((first|apply WL.opN|apply WD.opN);exact yF;dsimp only[ZC,z0,z1])|refine WL.nil ?_|refine ZA fun Kx hK=>?_|(refine hK _ _ ?_;clear hK)|refine WC.region ?_|((first|apply ZF|apply WD.op);(focus (first|exact wN|(apply SYG.yes;(exact wY);((first|(apply SY.len;exact OpD.t rfl;exact ZB0;exact ZAK.unt)|((first|apply SY.move|apply SY.assign|apply SY.lss|apply SY.geq|apply SY.eql|apply SY.neq|apply SY.not) <;> (exact oD))|fail);all_goals infer_instance))));dsimp only[ZC,z0,z1])|(apply ZB;(exact oD);all_goals (intro h;try exact xD))|refine WC.skip ?_|refine WC.block ?_))
   all_goals try (exfalso;first|contradiction|omega)
   (refine WC.loopU (X:=Nat) (fun i=>[(8,dI (i:Int)),(6,dA),(23,dA),(24,dA),(25,dA),(26,dA),(27,dA),(28,dA),(29,dA),(30,dA),(31,dA),(32,dA),(33,dA),(34,dA),(35,dA),(36,dA),(37,dA),(38,dA),(39,dA),(40,dA),(41,dA),(42,dA)]) (fun i=>[]) (fun i=>lv.length-i) (fun i=>i≤lv.length/\(((lv.drop i).all (ZAi f (k:Int)) && Y) && X)=o) 0 ?start ?frame0 ?objs0 ?round)
   case start=>exact⟨Nat.zero_le _,hE⟩
   case frame0=>exact zFr
   case objs0=>rfl
   case round =>
    rintro i ⟨hi,hG⟩;dsimp only[ZL,z0,z1];by_cases hil:i<lv.length
    ·have hiI:(i:Int)<(lv.length:Int):=by omega
     have c1:=ZI1 vs A lv[i] (k:Int) hA (by omega) (by omega);rw[hfe,ZFi hf] at c1;rw[List.drop_eq_getElem_cons hil,List.all_cons] at hG;cases hp:ZAi f (k:Int) lv[i] with
     | false =>
      rw[hp] at c1;rw[hp,Bool.false_and,Bool.false_and,Bool.false_and] at hG;subst hG;((repeat' (first|((first|apply WL.opN|apply WD.opN);exact yF;dsimp only[ZC,z0,z1])|refine WL.nil ?_|refine WD.nil ?_|refine ZA fun Kx hK=>?_|(refine hK _ _ ?_;clear hK)|refine WC.region ?_|(apply WC.draw;kernel_rfl;kernel_rfl)|((first|apply ZF|apply WD.op);(focus (first|exact wN|(apply SYG.yes;(exact wY);((first|(apply SY.load;exact ZAz;exact OpD.t rfl)|(refine Z6 (D:=fun z=>dP 1 false (dS Zh z)) hlv (SY.ix (R:=Zh) (_gR:=inferInstance) (k:=k) ZAK (OpD.t rfl) (OpD.t rfl) hkl))|(refine SY.ix (R:=ZM) (_gR:=inferInstance) (k:=i) ZB9 (OpD.t rfl) (OpD.t rfl) hil)|(apply SY.call (c1) Tryz.call116;(exact aD))|((first|apply SY.move|apply SY.assign|apply SY.lss|apply SY.geq|apply SY.eql|apply SY.neq|apply SY.not) <;> (exact oD))|(apply SY.len;(exact oD);(exact nD);(exact uD))|fail);all_goals infer_instance))));dsimp only[ZC,z0,z1])|(apply ZB;(exact oD);all_goals (intro h;try exact xD))|(apply ZO;(exact oD);all_goals (intro h;try exact xD))|refine WC.skip ?_|refine WC.ret ?_|refine WC.block ?_|refine ThenD.r ?_|refine InBlockD.r ?_));all_goals (first|((repeat clear hK);(repeat clear Kx))))
      all_goals try (exfalso;first|contradiction|omega)
      (refine⟨trivial,_,rfl,?_⟩;exact fD)
     | true =>
      rw[hp] at c1;rw[hp,Bool.true_and] at hG;((repeat' (first|((first|apply WL.opN|apply WD.opN);exact yF;dsimp only[ZC,z0,z1])|refine WL.nil ?_|refine WD.nil ?_|refine ZA fun Kx hK=>?_|(refine hK _ _ ?_;clear hK)|refine WC.region ?_|(apply WC.draw;kernel_rfl;kernel_rfl)|((first|apply ZF|apply WD.op);(focus (first|exact wN|(apply SYG.yes;(exact wY);((first|(apply SY.load;exact ZAz;exact OpD.t rfl)|(refine Z6 (D:=fun z=>dP 1 false (dS Zh z)) hlv (SY.ix (R:=Zh) (_gR:=inferInstance) (k:=k) ZAK (OpD.t rfl) (OpD.t rfl) hkl))|(refine SY.ix (R:=ZM) (_gR:=inferInstance) (k:=i) ZB9 (OpD.t rfl) (OpD.t rfl) hil)|(apply SY.call (c1) Tryz.call116;(exact aD))|((first|apply SY.move|apply SY.assign|apply SY.lss|apply SY.geq|apply SY.eql|apply SY.neq|apply SY.not) <;> (exact oD))|((first|apply SY.add|apply SY.sub|apply SY.rem) <;> first|exact oD|omega)|(apply SY.len;(exact oD);(exact nD);(exact uD))|fail);all_goals infer_instance))));dsimp only[ZC,z0,z1])|(apply ZB;(exact oD);all_goals (intro h;try exact xD))|(apply ZO;(exact oD);all_goals (intro h;try exact xD))|refine WC.skip ?_|refine WC.block ?_|refine ThenD.n ?_));all_goals (first|((repeat clear hK);(repeat clear Kx))))
      all_goals try (exfalso;first|contradiction|omega)
      (refine zNx (i+1) ?_;(try dsimp only))
      exact⟨hil,hG⟩
    ·have hiI:¬ (i:Int)<(lv.length:Int):=by omega
     rw[List.drop_of_length_le (by omega),List.all_nil,Bool.true_and] at hG;by_cases h0:k=0
     ·subst h0;rw[<- hY,decide_eq_true rfl,Bool.true_or,Bool.true_and] at hG;((repeat' (first|((first|apply WL.opN|apply WD.opN);exact yF;dsimp only[ZC,z0,z1])|refine WL.nil ?_|refine ZA fun Kx hK=>?_|(refine hK _ _ ?_;clear hK)|(refine Kont.skip ?_;clear hK)|refine WC.region ?_|((first|apply ZF|apply WD.op);(focus (first|exact wN|(apply SYG.yes;(exact wY);((first|(refine Z6 (D:=fun z=>dP 1 false (dS Zh z)) hlv (SY.ix (R:=Zh) (_gR:=inferInstance) (k:=0) ZAK (OpD.t rfl) (OpD.t rfl) hkl))|((first|apply SY.move|apply SY.assign|apply SY.lss|apply SY.geq|apply SY.eql|apply SY.neq|apply SY.not) <;> (exact oD))|((first|apply SY.add|apply SY.sub|apply SY.rem) <;> first|exact oD|omega)|(apply SY.len;(exact oD);(exact nD);(exact uD))|fail);all_goals infer_instance))));dsimp only[ZC,z0,z1])|(apply ZB;(exact oD);all_goals (intro h;try exact xD))|refine WC.exit ?_|refine ThenD.n ?_));all_goals (first|((repeat clear hK);(repeat clear Kx))))
      all_goals try (exfalso;first|contradiction|omega)
      (refine zNx (0+1) ?_;(try dsimp only))
      exact⟨hkl,hX.trans hG⟩
     ·have h0I:¬ (k:Int)=0:=by omega
      rw[decide_eq_false h0,Bool.false_or] at hY;rw[<- hY] at hG;have cAl:=ZM7 l k (by omega) h8 (by omega);obtain⟨al,hal⟩:∃al,ZAl l k=al:=⟨_,rfl⟩;rw[hal] at cAl hG;have hall:al.length≤7000:=by
       have:=ZGF h8 k;rw[hal] at this;omega
      obtain⟨pv,hpv⟩:∃pv,ZDD L k=pv:=⟨_,rfl⟩;rw[hpv] at hG;have hpk:L[k-1]'(by omega)=pv:=by
       have:=ZEJ (L:=L) (k:=k-1) (by omega);rw[show k-1+1=k by omega,hpv] at this;exact this.symm
      (repeat' (first|((first|apply WL.opN|apply WD.opN);exact yF;dsimp only[ZC,z0,z1])|refine WL.nil ?_|refine ZA fun Kx hK=>?_|(refine hK _ _ ?_;clear hK)|(refine Kont.skip ?_;clear hK)|refine WC.region ?_|((first|apply ZF|apply WD.op);(focus (first|exact wN|(apply SYG.yes;(exact wY);((first|(refine Z6 (D:=fun z=>dP 1 false (dS Zh z)) hlv (SY.ix (R:=Zh) (_gR:=inferInstance) (k:=k) ZAK (OpD.t rfl) (OpD.t rfl) hkl))|(apply SY.call (cAl) Tryz.call108;(exact aD))|((first|apply SY.move|apply SY.assign|apply SY.lss|apply SY.geq|apply SY.eql|apply SY.neq|apply SY.not) <;> (exact oD))|(apply SY.len;(exact oD);(exact nD);(exact uD))|fail);all_goals infer_instance))));dsimp only[ZC,z0,z1])|(apply ZB;(exact oD);all_goals (intro h;try exact xD))|refine WC.skip ?_|refine WC.exit ?_|refine WC.block ?_))
      all_goals try (exfalso;first|contradiction|omega)
      (refine WC.loopU (X:=Nat) (fun j=>[(10,dI (j:Int)),(6,dA),(48,dA),(49,dA),(50,dA),(51,dA),(52,dA),(53,dA),(54,dA),(55,dA),(56,dA),(57,dA),(58,dA),(59,dA),(60,dA),(61,dA),(62,dA),(63,dA),(64,dA),(65,dA),(66,dA),(67,dA),(68,dA),(69,dA),(70,dA),(71,dA),(72,dA),(73,dA),(74,dA),(75,dA),(76,dA),(77,dA),(78,dA),(79,dA),(80,dA),(81,dA),(82,dA),(83,dA),(84,dA),(85,dA)]) (fun j=>[]) (fun j=>al.length-j) (fun j=>j≤al.length/\(((al.drop j).all fun g=>!(ZF6 f (((2 ^ k:Nat):Int)-1) g && (decide (ZBt lv g % 2=1) != decide (0≤ZNz g 0 pv)))) && X)=o) 0 ?start ?frame0 ?objs0 ?round)
      case start=>exact⟨Nat.zero_le _,hG⟩
      case frame0=>exact zFr
      case objs0=>rfl
      case round =>
       rintro j ⟨hj,hH⟩;dsimp only[ZL,z0,z1];by_cases hjl:j<al.length
       ·have hjI:(j:Int)<(al.length:Int):=by omega
        have c2:=ZGm vs A al[j] k hA (by omega) (by omega);rw[hfe] at c2;have c3:=ZPE lv al[j];have c4:=ZPy pv al[j];rw[List.drop_eq_getElem_cons hjl,List.all_cons] at hH;obtain⟨b1,hb1⟩:∃b1,ZF6 f (((2 ^ k:Nat):Int)-1) al[j]=b1:=⟨_,rfl⟩;obtain⟨b2,hb2⟩:∃b2,decide (ZBt lv al[j] % 2=1)=b2:=⟨_,rfl⟩;obtain⟨b3,hb3⟩:∃b3,decide (0≤ZNz al[j] 0 pv)=b3:=⟨_,rfl⟩;have hb2':decide (((ZBt lv al[j]:Int)).tmod 2=1)=b2:=by
         rw[<- hb2];refine decide_eq_decide.2 ?_;rw[Int.tmod_eq_emod_of_nonneg (by omega)];omega
        rw[hb1,hb2,hb3] at hH;rw[hb1] at c2;obtain⟨b4,hb4⟩:∃b4,(b2 != b3)=b4:=⟨_,rfl⟩;rw[hb4] at hH;cases b1 with
        | false =>
         rw[Bool.false_and,Bool.not_false,Bool.true_and] at hH;((repeat' (first|((first|apply WL.opN|apply WD.opN);exact yF;dsimp only[ZC,z0,z1])|refine WL.nil ?_|refine WD.nil ?_|refine ZA fun Kx hK=>?_|(refine hK _ _ ?_;clear hK)|refine WC.region ?_|(apply WC.draw;kernel_rfl;kernel_rfl)|((first|apply ZF|apply WD.op);(focus (first|exact wN|(apply SYG.yes;(exact wY);((first|(apply SY.load;exact ZAz;exact OpD.t rfl)|(refine SY.ix (R:=ZM) (_gR:=inferInstance) (k:=j) ZB9 (OpD.t rfl) (OpD.t rfl) hjl)|(apply SY.call (c2) Tryz.call109;(exact aD))|((first|apply SY.move|apply SY.assign|apply SY.lss|apply SY.geq|apply SY.eql|apply SY.neq|apply SY.not) <;> (exact oD))|((first|apply SY.add|apply SY.sub|apply SY.rem) <;> first|exact oD|omega)|(apply SY.len;(exact oD);(exact nD);(exact uD))|(apply ZY;(exact oD);(with_reducible rfl);(exact oD))|fail);all_goals infer_instance))));dsimp only[ZC,z0,z1])|(apply ZQ;(exact oD);(with_reducible rfl))|(apply ZB;(exact oD);all_goals (intro h;try exact xD))|refine WC.skip ?_|refine WC.block ?_|refine ThenD.n ?_));all_goals (first|((repeat clear hK);(repeat clear Kx))))
         all_goals try (exfalso;first|contradiction|omega)
         (refine zNx (j+1) ?_;(try dsimp only))
         exact⟨hjl,hH⟩
        | true =>
         cases b4 with
         | true =>
          rw[Bool.true_and,Bool.not_true,Bool.false_and,Bool.false_and] at hH;subst hH;((repeat' (first|((first|apply WL.opN|apply WD.opN);exact yF;dsimp only[ZC,z0,z1])|refine WL.nil ?_|refine WD.nil ?_|refine ZA fun Kx hK=>?_|(refine hK _ _ ?_;clear hK)|refine WC.region ?_|(apply WC.draw;kernel_rfl;kernel_rfl)|((first|apply ZF|apply WD.op);(focus (first|exact wN|(apply SYG.yes;(exact wY);((first|(apply SY.load;exact ZAz;exact OpD.t rfl)|(apply SY.load;exact ZSX;exact OpD.t rfl)|(apply SY.load;exact ZQv;exact OpD.t rfl)|(refine Z6 (D:=fun z=>dP 1 false (dS Zh z)) hlv (SY.ix (R:=Zh) (_gR:=inferInstance) (k:=k) ZAK (OpD.t rfl) (OpD.t rfl) hkl))|(refine Z6 (D:=fun z=>dP 1 false (dS Zh z)) hpk (SY.ix (R:=Zh) (_gR:=inferInstance) (k:=k-1) ZAK (OpD.t rfl) (OpD.tle rfl (ZBv (by omega))) (by omega)))|(refine SY.ix (R:=ZM) (_gR:=inferInstance) (k:=j) ZB9 (OpD.t rfl) (OpD.t rfl) hjl)|(exact SY.rem (OpD.t rfl) OpD.i (by decide))|(exact ZEc hb2' (OpD.t rfl) OpD.i)|(exact ZN9 hb3 (OpD.t rfl) OpD.i)|(exact ZEr hb4 (OpD.t rfl) (OpD.t rfl))|(apply SY.call (c2) Tryz.call109;(exact aD))|(apply SY.call (c3) Tryz.call117;(exact aD))|(apply SY.call (c4) Tryz.call118;(exact aD))|((first|apply SY.move|apply SY.assign|apply SY.lss|apply SY.geq|apply SY.eql|apply SY.neq|apply SY.not) <;> (exact oD))|((first|apply SY.add|apply SY.sub|apply SY.rem) <;> first|exact oD|omega)|(apply SY.len;(exact oD);(exact nD);(exact uD))|(apply ZZ;(exact oD);(with_reducible rfl);(exact oD))|fail);all_goals infer_instance))));dsimp only[ZC,z0,z1])|(apply Zc;(exact oD);(with_reducible rfl))|(apply ZB;(exact oD);all_goals (intro h;try exact xD))|refine WC.skip ?_|refine WC.ret ?_|refine WC.block ?_|refine ThenD.r ?_|refine InBlockD.r ?_));all_goals (first|((repeat clear hK);(repeat clear Kx))))
          all_goals try (exfalso;first|contradiction|omega)
          (refine⟨trivial,_,rfl,?_⟩;exact fD)
         | false =>
          rw[Bool.true_and,Bool.not_false,Bool.true_and] at hH;((repeat' (first|((first|apply WL.opN|apply WD.opN);exact yF;dsimp only[ZC,z0,z1])|refine WL.nil ?_|refine WD.nil ?_|refine ZA fun Kx hK=>?_|(refine hK _ _ ?_;clear hK)|refine WC.region ?_|(apply WC.draw;kernel_rfl;kernel_rfl)|((first|apply ZF|apply WD.op);(focus (first|exact wN|(apply SYG.yes;(exact wY);((first|(apply SY.load;exact ZAz;exact OpD.t rfl)|(apply SY.load;exact ZSX;exact OpD.t rfl)|(apply SY.load;exact ZQv;exact OpD.t rfl)|(refine Z6 (D:=fun z=>dP 1 false (dS Zh z)) hlv (SY.ix (R:=Zh) (_gR:=inferInstance) (k:=k) ZAK (OpD.t rfl) (OpD.t rfl) hkl))|(refine Z6 (D:=fun z=>dP 1 false (dS Zh z)) hpk (SY.ix (R:=Zh) (_gR:=inferInstance) (k:=k-1) ZAK (OpD.t rfl) (OpD.tle rfl (ZBv (by omega))) (by omega)))|(refine SY.ix (R:=ZM) (_gR:=inferInstance) (k:=j) ZB9 (OpD.t rfl) (OpD.t rfl) hjl)|(exact SY.rem (OpD.t rfl) OpD.i (by decide))|(exact ZEc hb2' (OpD.t rfl) OpD.i)|(exact ZN9 hb3 (OpD.t rfl) OpD.i)|(exact ZEr hb4 (OpD.t rfl) (OpD.t rfl))|(apply SY.call (c2) Tryz.call109;(exact aD))|(apply SY.call (c3) Tryz.call117;(exact aD))|(apply SY.call (c4) Tryz.call118;(exact aD))|((first|apply SY.move|apply SY.assign|apply SY.lss|apply SY.geq|apply SY.eql|apply SY.neq|apply SY.not) <;> (exact oD))|((first|apply SY.add|apply SY.sub|apply SY.rem) <;> first|exact oD|omega)|(apply SY.len;(exact oD);(exact nD);(exact uD))|(apply ZZ;(exact oD);(with_reducible rfl);(exact oD))|fail);all_goals infer_instance))));dsimp only[ZC,z0,z1])|(apply ZQ;(exact oD);(with_reducible rfl))|(apply ZB;(exact oD);all_goals (intro h;try exact xD))|refine WC.skip ?_|refine WC.block ?_|refine ThenD.n ?_));all_goals (first|((repeat clear hK);(repeat clear Kx))))
          all_goals try (exfalso;first|contradiction|omega)
          (refine zNx (j+1) ?_;(try dsimp only))
          exact⟨hjl,hH⟩
       ·have hjI:¬ (j:Int)<(al.length:Int):=by omega
        rw[List.drop_of_length_le (by omega),List.all_nil,Bool.true_and] at hH;((repeat' (first|((first|apply WL.opN|apply WD.opN);exact yF;dsimp only[ZC,z0,z1])|refine WL.nil ?_|refine ZA fun Kx hK=>?_|(refine hK _ _ ?_;clear hK)|(refine Kont.skip ?_;clear hK)|refine WC.region ?_|((first|apply ZF|apply WD.op);(focus (first|exact wN|(apply SYG.yes;(exact wY);((first|((first|apply SY.move|apply SY.assign|apply SY.lss|apply SY.geq|apply SY.eql|apply SY.neq|apply SY.not) <;> (exact oD))|((first|apply SY.add|apply SY.sub|apply SY.rem) <;> first|exact oD|omega)|(apply SY.len;(exact oD);(exact nD);(exact uD))|fail);all_goals infer_instance))));dsimp only[ZC,z0,z1])|(apply ZB;(exact oD);all_goals (intro h;try exact xD))|refine WC.exit ?_|refine ThenD.n ?_));all_goals (first|((repeat clear hK);(repeat clear Kx))))
        all_goals try (exfalso;first|contradiction|omega)
        (refine zNx (k+1) ?_;(try dsimp only))
        exact⟨hkl,hX.trans hH⟩
  ·have hkI:¬ (k:Int)<(L.length:Int):=by omega
   rw[List.drop_of_length_le (by omega)] at hE;have h0:o=true:=by rw[<- hE];rfl
   subst h0;((repeat' (first|((first|apply WL.opN|apply WD.opN);exact yF;dsimp only[ZC,z0,z1])|refine WL.nil ?_|refine ZA fun Kx hK=>?_|(refine hK _ _ ?_;clear hK)|(refine Kont.skip ?_;clear hK)|refine WC.region ?_|((first|apply ZF|apply WD.op);(focus (first|exact wN|(apply SYG.yes;(exact wY);((first|(apply SY.len;exact OpD.t rfl;exact ZB0;exact ZAK.unt)|((first|apply SY.move|apply SY.assign|apply SY.lss|apply SY.geq|apply SY.eql|apply SY.neq|apply SY.not) <;> (exact oD))|fail);all_goals infer_instance))));dsimp only[ZC,z0,z1])|(apply ZB;(exact oD);all_goals (intro h;try exact xD))|refine WC.ret ?_|refine WC.exit ?_));all_goals (first|((repeat clear hK);(repeat clear Kx))))
   all_goals try (exfalso;first|contradiction|omega)
   (refine⟨trivial,_,rfl,?_⟩;exact fD)
end
end Go.Proofs.YtofkoleingbbpaaGreatDoor
