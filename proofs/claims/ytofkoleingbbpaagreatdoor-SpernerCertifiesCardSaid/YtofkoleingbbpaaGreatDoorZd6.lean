/- Part 6 of the proof. -/
import Derived.Test.YtofkoleingbbpaaGreatDoorZd5
set_option linter.all false
set_option maxRecDepth 100000
set_option maxHeartbeats 64000000
namespace Go.Proofs.YtofkoleingbbpaaGreatDoor
section
open Go.RowKit
open C34
def ZKi (l:Cx) (f:Vx->Int) (U:List (Nat × List Vx)) (k:Nat):List (List Int):=((ZAi l k).filter (ZF6 f (((2 ^ k:Nat):Int)-1))).map fun s=>plc 0 U (ZLT s k)
def ZS1 (u:Nat × List Vx):Bool:=decide (u.1=0)
def ZDh (l:Cx) (f:Vx->Int) (U:List (Nat × List Vx)) (k:Nat):List (List Int):=plc 0 U ZS1::(List.range k).flatMap fun j=>ZKi l f U (j+1)
theorem ZHM {l:Cx} {f:Vx->Int} {U:List (Nat × List Vx)} {k:Nat}:ZDh l f U (k+1)=ZDh l f U k++ZKi l f U (k+1):=by
 unfold ZDh;rw[List.range_succ,List.flatMap_append,List.cons_append];simp
def ZCP (al:Cx) (q:List Vx->Bool) (U:List (Nat × List Vx)) (k i:Nat):List (List Int):=((al.take i).filter q).map fun s=>plc 0 U (ZLT s k)
theorem ZLj {al:Cx} {q:List Vx->Bool} {U:List (Nat × List Vx)} {k i:Nat} (h:i<al.length):ZCP al q U k (i+1)=ZCP al q U k i++if q al[i]=true then[plc 0 U (ZLT al[i] k)] else[]:=by
 unfold ZCP;rw[List.take_add_one,List.getElem?_eq_getElem h,List.filter_append,List.map_append];congr 1;cases hq:q al[i] <;> simp[hq]
theorem ZNk (al:Cx) (q:List Vx->Bool) (U:List (Nat × List Vx)) (k i:Nat):(ZCP al q U k i).length≤al.length:=by
 unfold ZCP;rw[List.length_map];exact Nat.le_trans (List.length_filter_le _ _) (by rw[List.length_take];omega)
theorem ZH9 {l:Cx} {f:Vx->Int} {U:List (Nat × List Vx)} {B:Nat} (hB:∀k,(ZAi l k).length≤B):∀k,(ZDh l f U k).length≤1+B*k
 | 0=>by simp[ZDh]
 | k+1=>by
  have ih:=ZH9 (f:=f) (U:=U) hB k;have h1:=hB (k+1);have h2:=List.length_filter_le (ZF6 f (((2 ^ (k+1):Nat):Int)-1)) (ZAi l (k+1));rw[ZHM,List.length_append,Nat.mul_succ];unfold ZKi;rw[List.length_map];omega
theorem ZQg {l:Cx} {f:Vx->Int} {d:Nat}:∀u∈ZEU (ZHc l f d),u.1<d:=fun u hu=>by
 unfold ZEU at hu;obtain⟨p,hp,hu⟩:=List.mem_flatMap.1 hu;obtain⟨s,_,rfl⟩:=List.mem_map.1 hu;have:=List.mem_zipIdx hp;rw[ZMY] at this;simp only;omega

theorem ZID (l:Cx) (vs:List Vx) (A:List Int) (d:Nat) (hd:d≤7) (hlb:ZAU vs A=0) (hl:l.length≤100) (h8:∀s∈l,s.length≤8):Fn Tryz.prog 64 [dS Cpx l,dS Lab (vs,A),dI (d:Int)] (dT [dS Mat (((ZEU (ZHc l (Zc vs A) (d+1))).length:Int),ZDh l (Zc vs A) (ZEU (ZHc l (Zc vs A) (d+1))) d),dS Unks (ZMu (ZHc l (Zc vs A) (d+1)))]):=by
 have cU:=ZKz l vs A d (by omega) hlb hl h8;obtain⟨hv,hA,_,_,hAr⟩:=ZAm hlb;have hf:=ZEC (vs:=vs) hAr;have hB:∀k,(ZAi l k).length≤7000:=fun k=>by
  have:=ZGF h8 k;omega
 obtain⟨f,hfe⟩:∃f,Zc vs A=f:=⟨_,rfl⟩;rw[hfe] at hf cU ⊢;have hUl:=ZJM (f:=f) hB (d+1);have hlev:=ZQg (l:=l) (f:=f) (d:=d+1);unfold ZMu at cU hUl ⊢;obtain⟨U,hUe⟩:∃U,ZEU (ZHc l f (d+1))=U:=⟨_,rfl⟩;rw[hUe] at cU hUl hlev ⊢;have hWl:(U.map fun p=>((p.1:Int),p.2)).length=U.length:=List.length_map _;rw[hWl] at hUl;have hU5:U.length≤56000:=by
  have:7000*(d+1)≤7000*8:=Nat.mul_le_mul_left _ (by omega);omega
 have hT:=ZH9 (f:=f) (U:=U) hB;obtain⟨n,hn⟩:∃n:Nat,U.length=n:=⟨_,rfl⟩;obtain⟨W,hW⟩:∃W,(U.map fun p=>((p.1:Int),p.2))=W:=⟨_,rfl⟩;rw[hW] at cU hWl ⊢;have hget:∀i (h:i<U.length) (h2:i<W.length),W[i]=((U[i].1:Int),U[i].2):=fun i h h2=>by
  subst hW;rw[List.getElem_map]
 refine ZCv ZHn Tryz.func64 rfl rfl ?_
 -- @kinds ref34.system
 simp only[Tryz.ntmps64,List.length_cons,List.length_nil,Nat.reduceAdd,Nat.reduceSub,List.replicate_succ,List.replicate_zero,List.cons_append,List.nil_append];(repeat' (first|(apply zV;exact yF;exact zQ)|refine ZVj ?_|refine ZA fun Kx hK=>?_|(refine hK _ _ ?_;clear hK)|refine ZVk ?_ |  (refine ZWF (dst:=some 6) ZN2 (Zj rfl rfl) fun b6=>?_;dsimp only[ZC,z0,z1]) |  (refine ZC0 (dst:=some 9) (zs:=[.int .i64 0,.slice none 0 0]) ZN2 (by decide) (by simp[Value.oneCell']) fun b9=>?_;dsimp only[ZC,z0,z1,List.map_cons,List.map_nil]) |  (refine ZBs ZHn (ZVh rfl) (ZVh rfl) rfl rfl ?_;dsimp only[ZC,z0,z1])|(apply zV;(focus ((first|(exact ZV3 (ZVh rfl) ZAL)|(exact ZV3 (ZVh rfl) Z1)|(apply ZVy;exact ZAz;exact ZVh rfl)|(apply ZVm (cU) Tryz.call107;exact aD)|(apply ZVu;exact ZVh rfl;exact ZDw;exact ZCh.unt)|(exact ZLH (ZVh rfl)));all_goals infer_instance));exact zQ)|refine ZVp ?_))
 all_goals try exact xO
 refine Zn 3 RI ?_;(refine ZV4 (X:=Nat × Value) (fun x=>[(11,dI (x.1:Int)),(10,dX x.2),(22,dA),(23,dA),(24,dA),(25,dA),(26,dA),(27,dA),(28,dA),(29,dA),(30,dA),(31,dA),(32,dA),(33,dA),(34,dA),(35,dA),(36,dA),(37,dA)]) (fun x=>([Zk x.2 3 RI (plc 0 (U.take x.1) ZS1),ZAV b9 105 [dI (W.length:Int),dX (.slice none 0 0)],Zm b6 105 2 true (dX (.agg #[.int .i64 0,.slice none 0 0]))])) (fun x=>U.length-x.1) (fun x=>x.1≤U.length) (0,.slice none 0 0) ?start ?frame0 ?objs0 ?round)
 case start=>exact Nat.zero_le _
 case frame0=>exact zFr
 case objs0=>rfl
 case round =>
  rintro⟨i,v⟩ hi;simp only at hi;dsimp only[ZH,z0,z1];by_cases hil:i<U.length
  ·have hil2:i<W.length:=by omega
   have hiI:(i:Int)<(W.length:Int):=by omega
   have hnx:=ZMi (p:=ZS1) hil;have hpl:=ZP2 (U.take i) ZS1 0;have h8b:((plc 0 (U.take i) ZS1).length+1)*8≤140737488355328:=by rw[List.length_take] at hpl;omega
   have hg:=hget i hil hil2;obtain⟨⟨m,s⟩,hu⟩:∃u,U[i]=u:=⟨_,rfl⟩;rw[hu] at hg hnx;obtain⟨X,hX⟩:∃X,plc 0 (U.take i) ZS1=X:=⟨_,rfl⟩;obtain⟨X2,hX2⟩:∃X2,plc 0 (U.take (i+1)) ZS1=X2:=⟨_,rfl⟩;rw[hX,hX2] at hnx;rw[hX] at h8b ⊢;unfold ZS1 at hnx;simp only at hg hnx;by_cases hm:m=0
   ·have hmI:decide ((m:Int)=0)=true:=decide_eq_true (by omega);rw[decide_eq_true hm,if_pos rfl] at hnx;((repeat' (first|refine zS ?_|refine ZA fun Kx hK=>?_|(refine hK _ _ ?_;clear hK)|((first|apply Zq|apply Zl);exact eD;exact ZVh rfl;exact oD;(intro _;exact hD);(exact(by simp));(exact(by simp));(first|exact⟨by decide,by decide⟩|skip);decide;exact lD;(intro _;dsimp only[ZC,z0,z1]);all_goals (try infer_instance))|(apply zV;(focus ((first|(exact ZBK (R:=Unk) (_gR:=inferInstance) ZCh hil2 hg (ZVh rfl) (ZVh rfl))|(apply ZVu;exact ZVh rfl;exact ZDw;exact ZCh.unt)|(apply Z9 ZLB;exact ZVh rfl)|(exact ZAx hmI (ZVh rfl) ZV5)|exact yG);all_goals infer_instance));exact zQ)|(apply Zf;exact oD;(with_reducible rfl))|(apply ZB;exact oD;all_goals (intro h;try exact xD))|refine ZVr ?_|refine ZVp ?_|refine ZVx ?_));all_goals ((repeat clear hK);repeat clear Kx))
    all_goals try exact xO
    rw[<- hnx,<- hX2];(refine zNx (i+1,_) ?_;(try dsimp only))
    exact hil
   ·have hmI:decide ((m:Int)=0)=false:=decide_eq_false (by omega);rw[decide_eq_false hm,if_neg Bool.noConfusion,List.append_nil] at hnx;((repeat' (first|refine zS ?_|refine ZA fun Kx hK=>?_|(refine hK _ _ ?_;clear hK)|(apply zV;(focus ((first|(exact ZBK (R:=Unk) (_gR:=inferInstance) ZCh hil2 hg (ZVh rfl) (ZVh rfl))|(apply ZVu;exact ZVh rfl;exact ZDw;exact ZCh.unt)|(apply Z9 ZLB;exact ZVh rfl)|(exact ZAx hmI (ZVh rfl) ZV5)|exact yG);all_goals infer_instance));exact zQ)|(apply ZQ;exact oD;(with_reducible rfl))|(apply ZB;exact oD;all_goals (intro h;try exact xD))|refine ZVr ?_|refine ZVp ?_|refine ZVx ?_));all_goals ((repeat clear hK);repeat clear Kx))
    all_goals try exact xO
    rw[<- hnx,<- hX2];(refine zNx (i+1,v) ?_;(try dsimp only))
    exact hil
  ·have hiI:¬ (i:Int)<(W.length:Int):=by omega
   obtain rfl:i=U.length:=by omega
   rw[List.take_length];refine ZIM (s:=10) rfl (Zn 23 ZAQ ?_);dsimp only[z0,z1];(repeat' (first|(apply zV;exact yF;exact zQ)|refine ZVj ?_|refine ZA fun Kx hK=>?_|(refine hK _ _ ?_;clear hK)|(refine ZV0 ?_;clear hK)|refine ZVk ?_ |  (apply Zl ZDj;exact ZVh rfl;exact ZVh rfl;(intro _;exact ZAI);(exact(by simp));(exact(by simp));decide;(exact(by simp));(intro _;dsimp only[ZC,z0,z1]);all_goals (try infer_instance)) |  (refine ZCY (mAt 0 rfl) fun hone=>ZBk (SW.at 1 rfl fun q=>SW.storeS ZKx (ZVh rfl) (ZVh rfl) (Z0 hone) (by simp)) fun _=>?_;dsimp only[ZC,z0,z1])|(apply zV;(focus ((first|(apply ZVu;exact ZVh rfl;exact ZDw;exact ZCh.unt)|(refine ZAl ZJJ (ZVh rfl) (by decide))|(refine ZAY ZKx (ZVh rfl) (mAt 1 rfl) rfl)|((first|apply ZVo|apply ZVn|apply ZVq|apply ZWT|apply ZV7) <;> exact oD));all_goals infer_instance));exact zQ)|(apply ZB;exact oD;all_goals (intro h;try exact xD))|refine ZV1 ?_|refine ZVp ?_))
   all_goals try exact xO
   rename_i v0 _ _;rw[List.nil_append];(refine ZV4 (X:=Nat × Value) (fun x=>[(12,dI (x.1:Int)),(13,dA),(14,dA),(44,dA),(45,dA),(46,dA),(47,dA),(48,dA),(49,dA),(50,dA),(51,dA),(52,dA),(53,dA),(54,dA),(55,dA),(56,dA),(57,dA),(58,dA),(59,dA),(60,dA),(61,dA),(62,dA),(63,dA),(64,dA),(65,dA),(66,dA),(67,dA),(68,dA),(69,dA),(70,dA),(71,dA),(72,dA),(73,dA),(74,dA),(75,dA),(76,dA)]) (fun x=>([Zk x.2 23 ZAQ (ZDh l f U (x.1-1)),ZAV b9 105 [dI (W.length:Int),dX x.2],Zm b6 105 2 true (dX (.agg #[.int .i64 0,.slice none 0 0]))])) (fun x=>d+1-x.1) (fun x=>1≤x.1/\x.1≤d+1) (1,v0) ?start ?frame0 ?objs0 ?round)
   case start=>exact⟨Nat.le_refl _,by omega⟩
   case frame0=>exact zFr
   case objs0=>rfl
   case round =>
    rintro⟨k,vk⟩ ⟨hk1,hk⟩;simp only at hk1 hk;dsimp only[ZH,z0,z1];obtain⟨m,rfl⟩:∃m,k=m+1:=⟨k-1,by omega⟩;rw[Nat.add_sub_cancel];by_cases hkd:m+1≤d
    ·have hkI:((m+1:Nat):Int)≤(d:Int):=by omega
     have hTk:=hT m;have hsc:=ZHM (l:=l) (f:=f) (U:=U) (k:=m);have cAl:=ZM9 l (m+1) (by omega) h8 (by omega);have hall:=hB (m+1);unfold ZKi at hsc;obtain⟨T,hTe⟩:∃T,ZDh l f U m=T:=⟨_,rfl⟩;obtain⟨T2,hT2⟩:∃T,ZDh l f U (m+1)=T:=⟨_,rfl⟩;rw[hTe,hT2] at hsc;rw[hTe] at hTk ⊢;obtain⟨al,hal⟩:∃al,ZAi l (m+1)=al:=⟨_,rfl⟩;rw[hal] at cAl hall hsc;have hscI:T2=T++ZCP al (ZF6 f (((2 ^ (m+1):Nat):Int)-1)) U (m+1) al.length:=by
      rw[hsc,ZCP,List.take_length]
     have hT7:T.length≤56001:=by
      have:7000*m≤7000*8:=Nat.mul_le_mul_left _ (by omega);omega
     (repeat' (first|refine zS ?_|refine ZA fun Kx hK=>?_|(refine hK _ _ ?_;clear hK)|(apply zV;(focus ((first|(apply ZVm (cAl) Tryz.call108;exact aD)|((first|apply ZVo|apply ZVn|apply ZVq|apply ZWT|apply ZV7) <;> exact oD));all_goals infer_instance));exact zQ)|(apply ZB;exact oD;all_goals (intro h;try exact xD))|refine ZVr ?_|refine ZVp ?_))
     all_goals try exact xO
     have hT0:T=T++ZCP al (ZF6 f (((2 ^ (m+1):Nat):Int)-1)) U (m+1) 0:=by simp[ZCP]
     rw[hT0];(refine ZV4 (X:=Nat × Value) (fun x=>[(14,dI (x.1:Int)),(52,dA),(53,dA),(54,dA),(55,dA),(56,dA),(57,dA),(58,dA),(59,dA),(60,dA),(61,dA),(62,dA),(63,dA),(64,dA),(65,dA),(66,dA),(67,dA),(68,dA),(69,dA),(70,dA),(71,dA),(72,dA),(73,dA),(74,dA),(75,dA),(76,dA)]) (fun x=>([Zk x.2 23 ZAQ (T++ZCP al (ZF6 f (((2 ^ (m+1):Nat):Int)-1)) U (m+1) x.1),ZAV b9 105 [dI (W.length:Int),dX x.2],Zm b6 105 2 true (dX (.agg #[.int .i64 0,.slice none 0 0]))])) (fun x=>al.length-x.1) (fun x=>x.1≤al.length) (0,vk) ?start ?frame0 ?objs0 ?round)
     case start=>exact Nat.zero_le _
     case frame0=>exact zFr
     case objs0=>rfl
     case round =>
      rintro⟨j,vj⟩ hj;simp only at hj;dsimp only[ZH,z0,z1];by_cases hjl:j<al.length
      ·have hjI:(j:Int)<(al.length:Int):=by omega
       have c2:=ZGl vs A al[j] (m+1) hA (by omega) (by omega);rw[hfe] at c2;obtain⟨q,hq⟩:∃q,ZF6 f (((2 ^ (m+1):Nat):Int)-1)=q:=⟨_,rfl⟩;rw[hq] at c2 ⊢;have hnx:=ZLj (q:=q) (U:=U) (k:=m+1) hjl;have hrl:=ZNk al q U (m+1) j;have h24:((T++ZCP al q U (m+1) j).length+1)*24≤140737488355328:=by rw[List.length_append];omega
       have hap:T++ZCP al q U (m+1) (j+1)=(T++ZCP al q U (m+1) j)++if q al[j]=true then[plc 0 U (ZLT al[j] (m+1))] else[]:=by rw[hnx,List.append_assoc]
       obtain⟨V,hV⟩:∃V,T++ZCP al q U (m+1) j=V:=⟨_,rfl⟩;obtain⟨V2,hV2⟩:∃V2,T++ZCP al q U (m+1) (j+1)=V2:=⟨_,rfl⟩;rw[hV,hV2] at hap;rw[hV] at h24 ⊢;have c3:=ZJ5 U al[j] (m+1) (by omega) (by omega) (by omega) fun u hu=>by have:=hlev u hu;omega
       rw[hW] at c3;obtain⟨s,hs⟩:∃s,al[j]=s:=⟨_,rfl⟩;rw[hs] at c2 c3 hap;obtain⟨r,hr⟩:∃r,plc 0 U (ZLT s (m+1))=r:=⟨_,rfl⟩;rw[hr] at c3 hap;cases hp:q s with
       | false =>
        rw[hp] at c2 hap;rw[if_neg Bool.noConfusion,List.append_nil] at hap;((repeat' (first|refine zS ?_|refine WD.nil ?_|refine ZA fun Kx hK=>?_|(refine hK _ _ ?_;clear hK)|(apply ZWB;kernel_rfl;kernel_rfl)|((first|apply ZVi|apply ZVl);(focus ((first|(apply ZVy;exact ZAz;exact ZVh rfl)|(exact Zg (R:=ZI) (_gR:=inferInstance) ZB8 hjl hs (ZVh rfl) (ZVh rfl))|(apply ZVm (c2) Tryz.call109;exact aD)|exact yG|fail);all_goals infer_instance));dsimp only[ZC,z0,z1])|(apply ZQ;exact oD;(with_reducible rfl))|(apply ZB;exact oD;all_goals (intro h;try exact xD))|refine ZVr ?_|refine ZVp ?_|refine ZVx ?_));all_goals ((repeat clear hK);repeat clear Kx))
        all_goals try exact xO
        rw[<- hap,<- hV2,<- hq];(refine zNx (j+1,vj) ?_;(try dsimp only))
        exact hjl
       | true =>
        rw[hp] at c2 hap;rw[if_pos rfl] at hap;((repeat' (first |  (apply ZWk (id:=18) 10;kernel_rfl;kernel_rfl;simp only[List.take_succ_cons,List.take_zero,List.drop_succ_cons,List.drop_zero])|((first|apply ZVi|apply ZVl);exact yF;dsimp only[ZC,z0,z1])|refine ZVj ?_|refine WD.nil ?_|refine ZA fun Kx hK=>?_|(refine hK _ _ ?_;clear hK)|refine ZVk ?_|(apply ZWB;kernel_rfl;kernel_rfl) |  (apply ZWX ZDj;exact ZVh rfl;exact ZVh rfl;decide;exact h24;(intro _;dsimp only[ZC,z0,z1]);all_goals (try infer_instance)) |  (refine ZCY (mAt 0 rfl) fun hone=>ZBk (SW.at 1 rfl fun q=>SW.storeS ZKx (ZVh rfl) (ZVh rfl) (Z0 hone) (by simp)) fun _=>?_;dsimp only[ZC,z0,z1])|((first|apply ZVi|apply ZVl);(focus ((first|(apply ZVy;exact ZAz;exact ZVh rfl)|(exact Zg (R:=ZI) (_gR:=inferInstance) ZB8 hjl hs (ZVh rfl) (ZVh rfl))|(apply ZVm (c2) Tryz.call109;exact aD)|(refine ZAl ZJJ (ZVh rfl) (by decide))|(refine ZAY ZKx (ZVh rfl) (mAt 1 rfl) rfl)|(apply ZVm (c3) Tryz.call110;exact aD)|((first|apply ZVo|apply ZVn|apply ZVq|apply ZWT|apply ZV7) <;> exact oD)|((first|apply ZV2) <;> first|exact oD|omega)|(apply ZVu;exact oD;exact nD;exact uD)|(apply ZWb;exact eD;((try simp only[List.map_cons,List.map_nil]);(repeat (first|exact Zr|(apply Zp;(first|exact ZVh rfl|exact ZV5|exact ZWE|exact ZWD rfl (by first|exact ZN|exact ZJ (by decide))|exact⟨ZN⟩|exact⟨ZJ (by decide)⟩)))));rfl;rfl;(intro _;first|exact ZAd|exact ZAS|exact ZAI|exact shape_B);(exact(by simp)))|fail);all_goals infer_instance));dsimp only[ZC,z0,z1])|(apply Zf;exact oD;(with_reducible rfl))|(apply ZB;exact oD;all_goals (intro h;try exact xD))|refine ZVr ?_|refine ZVp ?_|refine ZVx ?_));all_goals ((repeat clear hK);repeat clear Kx))
        all_goals try exact xO
        rw[<- hap,<- hV2,<- hq];(refine zNx (j+1,_) ?_;(try dsimp only))
        exact hjl
      ·have hjI:¬ (j:Int)<(al.length:Int):=by omega
       obtain rfl:j=al.length:=by omega
       rw[<- hscI,<- hT2];((repeat' (first|refine zS ?_|refine ZA fun Kx hK=>?_|(refine hK _ _ ?_;clear hK)|(refine ZV0 ?_;clear hK)|(apply zV;exact yG;exact zQ)|(apply ZB;exact oD;all_goals (intro h;try exact xD))|refine ZV1 ?_|refine ZVx ?_));all_goals ((repeat clear hK);repeat clear Kx))
       all_goals try exact xO
       (refine zNx (m+1+1,vj) ?_;(try dsimp only))
       exact⟨by omega,by omega⟩
    ·have hkI:¬ ((m+1:Nat):Int)≤(d:Int):=by omega
     obtain rfl:m=d:=by omega
     refine ZWe (List.Perm.swap _ _ _) (ZEs (k:=1) rfl ?_);dsimp only[z0,z1];((repeat' (first|(apply zV;exact yF;exact zQ)|refine ZVj ?_|refine ZA fun Kx hK=>?_|(refine hK _ _ ?_;clear hK)|(refine ZV0 ?_;clear hK)|refine ZVk ?_ |  (refine ZCC ZHn rfl (ZWD rfl ZEc) ZA9 ?_;dsimp only[ZC,z0,z1])|(apply zV;(focus ((first|(refine ZDN ZHn (ZVh rfl) (mAt 0 rfl) (by decide) rfl)|exact yG);all_goals infer_instance));exact zQ)|(apply ZB;exact oD;all_goals (intro h;try exact xD))|refine ZVs ?_|refine ZV1 ?_));all_goals ((repeat clear hK);repeat clear Kx))
     all_goals try exact xO
     rw[hWl];exact⟨trivial,⟨_,rfl,ZWR (ZWI _)⟩,_,rfl,ZWR (ZWI _)⟩
def ZUg (U:List (Nat × List Vx)) (rows:List (List Int)) (d:Nat):Option (List Cx):=(L05.solR rows [0] U.length).map fun x=>(List.range (d+1)).map fun k=>x.filterMap fun i=>ZEP U k i.toNat
def ZEQ (U:List (Nat × List Vx)) (x:List Int) (i k:Nat):Cx:=(x.take i).filterMap fun j=>ZEP U k j.toNat
theorem ZNd {U:List (Nat × List Vx)} {x:List Int} {i k:Nat} (h:i<x.length):ZEQ U x (i+1) k=ZEQ U x i k++(ZEP U k x[i].toNat).toList:=by
 unfold ZEQ;rw[List.take_add_one,List.getElem?_eq_getElem h,List.filterMap_append];congr 1
theorem ZPy (U:List (Nat × List Vx)) (x:List Int) (i k:Nat):(ZEQ U x i k).length≤x.length:=by
 unfold ZEQ;exact Nat.le_trans (List.length_filterMap_le _ _) (by rw[List.length_take];omega)
theorem ZPV (l:Cx) (vs:List Vx) (A:List Int) (d:Nat) (hd:d≤7) (hlb:ZAU vs A=0) (hl:l.length≤100) (h8:∀s∈l,s.length≤8) (U:List (Nat × List Vx)) (rows:List (List Int)) (hU:ZEU (ZHc l (Zc vs A) (d+1))=U) (hrw:ZDh l (Zc vs A) U d=rows) (hUl:U.length≤4096) (hrl:rows.length≤4096)
  (h1:L05.AllAsc rows) (h2:∀r∈rows,L05.Low (U.length:Int) r) (h3:∀r∈rows,L05.Pos r) :
  Fn Tryz.prog 65 [dS Cpx l,dS Lab (vs,A),dI (d:Int)] (dT [dS ZFw ((ZUg U rows d).getD []),dB (ZUg U rows d).isSome]):=by
 have cS:=ZID l vs A d hd hlb hl h8;have hlev:=ZQg (l:=l) (f:=Zc vs A) (d:=d+1);unfold ZMu at cS;rw[hU,hrw] at cS;rw[hU] at hlev;have hWl:(U.map fun p=>((p.1:Int),p.2)).length=U.length:=List.length_map _;obtain⟨W,hW⟩:∃W,(U.map fun p=>((p.1:Int),p.2))=W:=⟨_,rfl⟩;rw[hW] at cS hWl;have hget:∀i (h:i<U.length) (h2:i<W.length),W[i]=((U[i].1:Int),U[i].2):=fun i h h2=>by
  subst hW;rw[List.getElem_map]
 have cX:=ZSK U.length rows [0] hUl hrl (by simp) h1 h2 h3;obtain⟨o,ho⟩:∃o,ZUg U rows d=o:=⟨_,rfl⟩;rw[ho];unfold ZUg at ho;cases hx:L05.solR rows [0] U.length with
 | none =>
  rw[hx] at cX ho;simp only[Option.map_none,Option.getD_none,Option.isSome_none] at cX ho;subst ho;refine zF Tryz.func65 65 ?_;((repeat' (first|(apply zV;exact yF;exact zQ)|refine ZVj ?_|refine ZA fun Kx hK=>?_|(refine hK _ _ ?_;clear hK)|refine ZVk ?_ |  (refine ZWF (dst:=some 8) ZN2 (Zj rfl rfl) fun b8=>?_;dsimp only[ZC,z0,z1]) |  (refine ZR ZHn rfl (ZVh rfl) ZA9 ?_;dsimp only[ZC,z0,z1])|(apply zV;(focus ((first|(exact ZV3 (ZVh rfl) ZAL)|(exact ZV3 (ZVh rfl) Z1)|(apply ZVy;exact ZAz;exact ZVh rfl)|(apply ZVm (cS) Tryz.call64;exact aD)|(apply ZVm (cX) Tryz.call111;exact aD)|exact yG|(apply ZWb;exact eD;((try simp only[List.map_cons,List.map_nil]);(repeat (first|exact Zr|(apply Zp;(first|exact ZVh rfl|exact ZV5|exact ZWE|exact ZWD rfl (by first|exact ZN|exact ZJ (by decide))|exact⟨ZN⟩|exact⟨ZJ (by decide)⟩)))));rfl;rfl;(intro _;first|exact ZAd|exact ZAS|exact ZAI|exact shape_B);(exact(by simp))));all_goals infer_instance));exact zQ)|(apply ZO;exact oD;all_goals (intro h;try exact xD))|refine ZVs ?_|refine ZVz ?_));all_goals ((repeat clear hK);repeat clear Kx))
  all_goals try exact xO
  (refine⟨trivial,⟨_,rfl,?_⟩,_,rfl,?_⟩ <;> exact fD)
 | some x =>
  rw[hx] at cX ho;simp only[Option.map_some,Option.getD_some,Option.isSome_some] at cX ho;subst ho;have hS:=L05.sol_sat h1 h2 h3 hx;have hxl:x.length≤U.length:=ZAu (n:=U.length) hS.asc fun v hv=>hS.rng v hv;have hmk:(d:Int)+1=((d+1:Nat):Int):=by omega
  have hb24:24*(d+1)≤281474976710656:=by omega
  have hm9:d+1≤1000000000:=by omega
  refine zF Tryz.func65 65 ?_;(repeat' (first|(apply zV;exact yF;exact zQ)|refine ZVj ?_|refine ZA fun Kx hK=>?_|(refine hK _ _ ?_;clear hK)|refine ZVk ?_ |  (refine ZWF (dst:=some 8) ZN2 (Zj rfl rfl) fun b8=>?_;dsimp only[ZC,z0,z1]) |  (refine ZR ZHn rfl (ZVh rfl) ZA9 ?_;dsimp only[ZC,z0,z1]) |  (refine ZLL ZAK (ZVh rfl) (ZVh rfl) hmk hb24 hm9 fun vL=>?_;dsimp only[ZC,z0,z1])|(apply zV;(focus ((first|(exact ZV3 (ZVh rfl) ZAL)|(exact ZV3 (ZVh rfl) Z1)|(apply ZVy;exact ZAz;exact ZVh rfl)|(apply ZVm (cS) Tryz.call64;exact aD)|(apply ZVm (cX) Tryz.call111;exact aD)|(exact ZDO (ZVh rfl))|((first|apply ZV2) <;> first|exact oD|omega)|(apply ZWb;exact eD;((try simp only[List.map_cons,List.map_nil]);(repeat (first|exact Zr|(apply Zp;(first|exact ZVh rfl|exact ZV5|exact ZWE|exact ZWD rfl (by first|exact ZN|exact ZJ (by decide))|exact⟨ZN⟩|exact⟨ZJ (by decide)⟩)))));rfl;rfl;(intro _;first|exact ZAd|exact ZAS|exact ZAI|exact shape_B);(exact(by simp)))|(apply ZWG;exact oD;rfl));all_goals infer_instance));exact zQ)|(apply ZQ;exact oD;(with_reducible rfl))|refine ZVr ?_|refine ZVp ?_))
  all_goals try exact xO
  refine ZHp (R:=ZI) 22 (List.range (d+1)) (ZWe List.perm_middle ?_);(refine ZV4 (X:=Nat × (Nat->Value)) (fun z=>[(13,dI (z.1:Int)),(14,dA),(33,dA),(34,dA),(35,dA),(36,dA),(37,dA),(38,dA),(39,dA),(40,dA),(41,dA),(42,dA),(43,dA),(44,dA),(45,dA),(46,dA),(47,dA),(48,dA),(49,dA),(50,dA),(51,dA),(52,dA),(53,dA),(54,dA),(55,dA),(56,dA),(57,dA),(58,dA),(59,dA),(60,dA),(61,dA),(62,dA),(63,dA)]) (fun z=>([Zk vL 27 ZLD ((List.range (d+1)).map z.2)]++(gR (List.range (d+1)) z.2 22 ZI (fun k=>ZEQ U x z.1 k)++[]))) (fun z=>x.length-z.1) (fun z=>z.1≤x.length) (0,fun _=>.slice none 0 0) ?start ?frame0 ?objs0 ?round)
  case start=>exact Nat.zero_le _
  case frame0=>exact zFr
  case objs0=>rfl
  case round =>
   rintro⟨i,u⟩ hi;simp only at hi;dsimp only[ZH,z0,z1];by_cases hil:i<x.length
   ·have hiI:(i:Int)<(x.length:Int):=by omega
    have hrng:=hS.rng _ (List.getElem_mem hil);obtain⟨q,hq⟩:∃q:Nat,x[i]=(q:Int):=⟨x[i].toNat,by omega⟩;have hqU:q<U.length:=by rw[hq] at hrng;omega
    have hqW:q<W.length:=by omega
    have hg:=hget q hqU hqW;have hln:=hlev _ (List.getElem_mem hqU);have hnx:∀k,ZEQ U x (i+1) k=ZEQ U x i k++(ZEP U k q).toList:=fun k=>by
     have:=ZNd (U:=U) (k:=k) hil;rw[hq,Int.toNat_natCast] at this;exact this
    obtain⟨⟨n,s⟩,hu⟩:∃u,U[q]=u:=⟨_,rfl⟩;rw[hu] at hg hln;simp only at hg hln;have hUq:U[q]?=some (n,s):=by rw[List.getElem?_eq_getElem hqU,hu]
    have hc1:ZEQ U x (i+1) n=ZEQ U x i n++[s]:=by
     rw[hnx];unfold ZEP;rw[hUq];simp
    have hc2:∀k,k≠n->ZEQ U x (i+1) k=ZEQ U x i k:=fun k hk=>by
     rw[hnx];unfold ZEP;rw[hUq];simp only;rw[if_neg (fun e:n=k=>hk e.symm),Option.toList_none,List.append_nil]
    have hpl:=ZPy U x i n;have h24:((ZEQ U x i n).length+1)*24≤140737488355328:=by omega
    have hnm:n∈List.range (d+1):=List.mem_range.2 hln;have hnl:n<((List.range (d+1)).map u).length:=by simpa using hln
    have hul:((List.range (d+1)).map u)[n]=u n:=by simp
    ((repeat' (first |  (refine WC.drawJ (fun hp'=>Zk vL 27 ZLD ((List.range (d+1)).map u)∈hp') 17 1 [4,5,16] [] [(0,false),(1,false),(2,false),(3,false),(4,false),(5,false),(6,false),(7,false),(8,false),(9,false),(10,false),(11,false),(12,false),(13,false),(14,false),(15,true),(16,false)] [true,true,true,true,true,true,true,true,true,true,true,true,true,true,true,true,true,false] (by kernel_rfl) (by kernel_rfl) (by kernel_rfl) rfl (mAt 0 rfl) ?_) |  (first|refine WA.one (S:=[true,true,true,true,true,true,true,true,true,true,true,true,true,true,true,true,true,false]) (i:=17) (by kernel_rfl) rfl ?_|refine WA.nil (S:=[true,true,true,true,true,true,true,true,true,true,true,true,true,true,true,true,true,true]) (by kernel_rfl) ?_) |  (refine ThenA.n ?_;dsimp only[z0,z1]) |  (refine ZFR rfl (SW.gApp (R:=ZI) (_gR:=inferInstance) (c':=fun k=>ZEQ U x (i+1) k) ZB8 List.nodup_range hnm hc1 hc2 (ZWD rfl le_RX) (ZVh rfl) (by decide) h24) (fun _=>mAt 0 rfl) fun v'=>?_;dsimp only[ZC,z0,z1])|(refine WMj.nil ?_)|(apply ZJm rfl;(focus (intro c;apply ZVt;(exact ZY rfl);((first|(exact Zg (R:=RI) (_gR:=inferInstance) elI hil hq (ZVh rfl) (ZVh rfl))|(exact ZBK (R:=Unk) (_gR:=inferInstance) ZCh hqW hg (ZVh rfl) (ZVh rfl))|(apply Z9 ZLB;exact ZVh rfl)|(apply ZAB ZLB;exact ZVh rfl)|(apply ZVy;exact ZSY;exact ZVh rfl)|((first|apply ZVo|apply ZVn|apply ZVq|apply ZVw) <;> exact oD)|(apply ZVy;exact tD;exact oD)|(apply ZWb;exact eD;((try simp only[List.map_cons,List.map_nil]);(repeat (first|exact Zr|(apply Zp;(first|exact ZVh rfl|exact ZV5|exact ZWE|exact ZWD rfl (by first|exact ZN|exact ZJ (by decide))|exact⟨ZN⟩|exact⟨ZJ (by decide)⟩)))));rfl;rfl;(intro _;first|exact ZAd|exact ZAS|exact ZAI|exact shape_B);(exact(by simp)))|fail);all_goals infer_instance)));dsimp only[ZC,z0,z1])|(apply ZJl rfl rfl;(focus (intro c hcc;apply ZVt;(exact ZY rfl);((first|(refine ZEV (R:=ZLD) (_gR:=inferInstance) ZAK (ZVh rfl) hcc (ZVh rfl) rfl hnl)|(refine ZCx (R:=ZLD) (_gR:=inferInstance) ZQx (ZVh rfl) hcc hnl hul)|fail);all_goals infer_instance)));dsimp only[ZC,z0,z1])|((first|apply ZVi|apply ZVl);exact yF;dsimp only[ZC,z0,z1])|refine ZVj ?_|refine WD.nil ?_|refine ZA fun Kx hK=>?_|(refine hK _ _ ?_;clear hK)|(refine ZV0 ?_;clear hK)|refine ZVk ?_|(apply ZWB;kernel_rfl;kernel_rfl) |  (refine ZOZ (R:=ZI) (_gR:=inferInstance) ZQx hln (ZVh rfl) rfl ?_;dsimp only[ZC,z0,z1])|((first|apply Zq|apply Zl);exact eD;exact ZVh rfl;exact oD;(intro _;exact hD);(exact(by simp));(exact(by simp));(first|exact⟨by decide,by decide⟩|skip);decide;exact lD;(intro _;dsimp only[ZC,z0,z1]);all_goals (try infer_instance))|((first|apply ZWW|apply ZWX);exact eD;exact ZVh rfl;exact oD;decide;exact lD;(intro _;dsimp only[ZC,z0,z1]);all_goals (try infer_instance))|((apply(ZWP (List.Perm.swap _ _ _));(first|apply Zq|apply Zl);exact eD;exact ZVh rfl;exact oD;(intro _;exact hD);(exact(by simp));(exact(by simp));(first|exact⟨by decide,by decide⟩|skip);decide;exact lD;(intro _;dsimp only[ZC,z0,z1]);all_goals (try infer_instance)))|((apply(ZWP (List.Perm.swap _ _ _));(first|apply ZWW|apply ZWX);exact eD;exact ZVh rfl;exact oD;decide;exact lD;(intro _;dsimp only[ZC,z0,z1]);all_goals (try infer_instance)))|(apply ZWF;(first|exact tzV|exact tzC);(first|exact Z0 rfl|exact ZAw|exact shape_C0 rfl);(intro _;dsimp only[ZC,z0,z1]))|(apply ZR;exact tD;rfl;exact oD;exact hD;dsimp only[ZC,z0,z1])|(apply ZCC;exact tD;rfl;exact oD;exact hD;dsimp only[ZC,z0,z1])|(apply WL.storeF3;exact tD;rfl;exact oD;exact hD;dsimp only[ZC,z0,z1])|((first|apply ZVi|apply ZVl);(focus ((first|(exact Zg (R:=RI) (_gR:=inferInstance) elI hil hq (ZVh rfl) (ZVh rfl))|(exact ZBK (R:=Unk) (_gR:=inferInstance) ZCh hqW hg (ZVh rfl) (ZVh rfl))|(apply Z9 ZLB;exact ZVh rfl)|(apply ZAB ZLB;exact ZVh rfl)|((first|apply ZVo|apply ZVn|apply ZVq|apply ZVw) <;> exact oD)|((first|apply ZV2) <;> first|exact oD|omega)|(apply ZVu;exact oD;exact nD;exact uD)|fail);all_goals infer_instance));dsimp only[ZC,z0,z1])|(apply Zf;exact oD;(with_reducible rfl))|(apply ZQ;exact oD;(with_reducible rfl))|(apply ZB;exact oD;all_goals (intro h;try exact xD))|(apply ZG;exact oD;all_goals (intro h;try exact xD))|(apply ZO;exact oD;all_goals (intro h;try exact xD))|(apply ZWY;exact oD;all_goals (intro h;try exact xD))|refine ZVr ?_|refine ZVs ?_|refine ZV1 ?_|refine ZVp ?_|refine ZVx ?_|refine ZVz ?_|refine ThenD.x ?_|refine InBlockD.x ?_|refine ZWc ?_|refine ZWC ?_|refine ZCw (by decide) ?_));all_goals ((repeat clear hK);repeat clear Kx))
    all_goals try exact xO
    (refine zNx (i+1,_) ?_;(try dsimp only))
    exact hil
   ·have hiI:¬ (i:Int)<(x.length:Int):=by omega
    obtain rfl:i=x.length:=by omega
    ((repeat' (first|refine zS ?_|refine ZA fun Kx hK=>?_|(refine hK _ _ ?_;clear hK)|(refine ZV0 ?_;clear hK)|(apply zV;exact yG;exact zQ)|(apply ZB;exact oD;all_goals (intro h;try exact xD))|refine ZVs ?_|refine ZV1 ?_));all_goals ((repeat clear hK);repeat clear Kx))
    all_goals try exact xO
    refine⟨trivial,⟨_,rfl,FinD.grp (R:=ZI) (_gR:=inferInstance) (c:=fun k=>ZEQ U x x.length k) (e2:=22) (mAt 0 rfl) (fun j hj=>List.mem_append_right _ (List.mem_append_left _ (ZSv (List.mem_range.2 hj)))) ?_⟩,_,rfl,ZWL rfl⟩;unfold ZEQ;rw[List.take_length];rfl
end
section
open Go.RowKit
open C34
theorem ZEW {α β:Type} {f g:α->List β}:∀ {l:List α},(∀x∈l,f x=g x)->l.flatMap f=l.flatMap g
 | [],_=>rfl
 | a::l,h=>by
  rw[List.flatMap_cons,List.flatMap_cons,h a (List.mem_cons_self ..),ZEW fun x hx=>h x (List.mem_cons_of_mem _ hx)]
theorem ZRw {l:Cx} {f:Vx->Int} {d:Nat} (he:(ZBf l).2=0) (hd:d≤8):ZHc l f d=ZAk l f d:=by
 unfold ZHc ZAk;refine List.map_congr_left fun k hk=>?_;have hk:=List.mem_range.1 hk;rw[show(k:Int)+1=((k+1:Nat):Int) by omega,ZCQ he (by omega) (by omega)]
theorem ZUX {α:Type} {L:List (List α)} {u:Nat × α} (h:u∈ZEU L):u.2∈L.getD u.1 []:=by
 unfold ZEU at h;obtain⟨p,hp,hu⟩:=List.mem_flatMap.1 h;obtain⟨s,hs,rfl⟩:=List.mem_map.1 hu;have:=List.mem_zipIdx hp;have h3:p.2<L.length:=by omega
 have h4:p.1=L[p.2]:=by
  have:=this.2.2;simpa using this
 simp only[List.getD_eq_getElem?_getD,List.getElem?_eq_getElem h3,Option.getD_some];rw[<- h4];exact hs
theorem ZTj {l:Cx} {f:Vx->Int} {d k:Nat} {s:List Vx} (he:(ZBf l).2=0) (hd:d<8) (h1:1≤k) (hk:k≤d) (hs:ZAC s=0/\s.length=k):plc 0 (ZEU (ZAk l f (d+1))) (ZLT s k)=ZQv txS (ZT k) (ZAk l f (d+1)) s k:=by
 have hg:=ZGP (f:=f) he (d:=d+1) (by omega);have hsa:Asc s:=(Zi.1 hs.1).2.2.2;rw[ZKh hg h1 hs.1,<- ZSI (ZVH k) _ s h1 (by rw[ZAO];omega)];unfold ZQD;refine ZE7 fun u hu=>?_;have hu2:=hg.ok _ _ (ZUX hu);have e1:decide (ZAa s u.2=0)=decide (s=u.2):=decide_eq_decide.2 ZBM;have e2:Z8 s u.2=ZVH k s u.2:=by
  have h3:=ZFo hsa (Zi.1 hu2.1).2.2.2;have h4:=ZAy k u.2 s;unfold ZVH;cases hq:Z8 s u.2 with
  | true=>exact(decide_eq_true (h4.2 ⟨h3.2 hq,hs.2⟩)).symm
  | false=>exact(decide_eq_false fun h=>by
    have:=h3.1 (h4.1 h).1;rw[hq] at this;cases this).symm
 unfold ZLT;rw[e1,e2]
theorem ZQI {l:Cx} {f:Vx->Int} {d:Nat} (he:(ZBf l).2=0) (hd:d<8):ZDh l f (ZEU (ZAk l f (d+1))) d=ZBb l f (ZAk l f (d+1)):=by
 unfold ZDh ZBb eqsP;rw[ZAO,Nat.add_sub_cancel];congr 1
 ·exact ZNS _ (by rw[ZAO];omega)
 ·refine ZEW fun j hj=>?_;have hj:=List.mem_range.1 hj;unfold ZKi ZFC;rw[ZCQ he (by omega) (by omega)];refine List.map_congr_left fun s hs=>?_;have hg:=ZEl (k:=j+1) (q:=ZF6 f (((2 ^ (j+1):Nat):Int)-1)) he (by omega) (by omega) (by rw[ZCQ he (by omega) (by omega)];exact hs);exact ZTj he hd (by omega) (by omega) ⟨hg.1,hg.2.1⟩
theorem ZRq {l:Cx} {f:Vx->Int} {d:Nat} (he:(ZBf l).2=0) (hd:d<8):ZUg (ZEU (ZAk l f (d+1))) (ZBb l f (ZAk l f (d+1))) d=ZFU l f (d+1):=by
 have hwf:=ZI9 (f:=f) he (d:=d+1) (by omega) (by omega);have hul:(ZEU (ZAk l f (d+1))).length=ZAj (ZAk l f (d+1)) (d+1):=by rw[ZHS,ZAO]
 have hA:L05.AllAsc (ZBb l f (ZAk l f (d+1))):=fun r hr=>(hwf r hr).1;have hLow:∀r∈ZBb l f (ZAk l f (d+1)),L05.Low ((ZAj (ZAk l f (d+1)) (d+1):Nat):Int) r:=fun r hr x hx=>((hwf r hr).2 x hx).2;have hPos:∀r∈ZBb l f (ZAk l f (d+1)),L05.Pos r:=fun r hr x hx=>((hwf r hr).2 x hx).1;unfold ZUg ZFU;rw[L05.sol_same hA hLow hPos,hul];cases hx:L05.solR (ZBb l f (ZAk l f (d+1))) [0] (ZAj (ZAk l f (d+1)) (d+1)) with
 | none=>rfl
 | some x =>
  have hS:=L05.sol_sat hA hLow hPos hx;rw[Option.map_some,Option.map_some];congr 1;have:=ZLQ (ZAk l f (d+1)) (x:=x) hS.asc fun i hi=>by rw[hul];exact hS.rng i hi
  rw[ZAO] at this;exact this
end
section
open Go.RowKit
open C34

theorem ZLN {l:Cx} {vs:List Vx} {A:List Int} (h:ZCD l vs A=0):ZAU vs A=0:=by
 unfold ZCD at h;by_cases h1:(ZBf l).2≠0
 ·rw[if_pos h1] at h;exact absurd h h1
 rw[if_neg h1] at h;by_cases h2:ZAU vs A≠0
 ·rw[if_pos h2] at h;exact absurd h h2
 ·exact Classical.byContradiction h2
end
section
open Go.RowKit
open C34

theorem ZQA (l:Cx) (vs:List Vx) (A:List Int) (d:Int) (hl:l.length≤100) (hF:ZF8 l≤400):Fn Tryz.prog 24 [dS Cpx l,dS Lab (vs,A),dI d] (dT [dS ZFw (ZQr l vs A d).1,dB (ZQr l vs A d).2.1,dI (ZQr l vs A d).2.2]):=by
 have c1:=ZG8 l vs A hl;obtain⟨o,ho⟩:∃o,ZQr l vs A d=o:=⟨_,rfl⟩;rw[ho];unfold ZQr at ho;by_cases h1:ZCD l vs A≠0
 ·rw[if_pos h1] at ho;subst ho;(refine ZCu Tryz.func24 rfl rfl ?_;simp only[Tryz.ntmps24,List.length_cons,List.length_nil,Nat.reduceAdd,Nat.reduceSub,List.replicate_succ,List.replicate_zero,List.cons_append,List.nil_append])
  ((repeat' (first|refine zS ?_|refine ZA fun Kx hK=>?_|(refine hK _ _ ?_;clear hK)|(apply ZF;(focus (first|exact wN|(apply ZVt;exact wY;((first|(exact ZV3 (ZVh rfl) ZAL)|(exact ZV3 (ZVh rfl) Z1)|(apply ZVy;exact ZAz;exact ZVh rfl)|(apply ZVm (c1) Tryz.call63;exact aD)|exact yG|fail);all_goals infer_instance))));dsimp only[ZC,z0,z1])|(apply ZG;exact oD;all_goals (intro h;try exact xD))|refine ZVs ?_|refine ZVz ?_));all_goals ((repeat clear hK);repeat clear Kx))
  all_goals try exact xO
  (refine⟨trivial,⟨_,rfl,?_⟩,⟨_,rfl,?_⟩,_,rfl,?_⟩ <;> exact fD)
 rw[if_neg h1] at ho;have h1':ZCD l vs A=0:=Classical.byContradiction h1;rw[h1'] at c1;by_cases h2:d<0\/8≤d
 ·rw[if_pos h2] at ho;subst ho;by_cases h3:d<0
  ·(refine ZCu Tryz.func24 rfl rfl ?_;simp only[Tryz.ntmps24,List.length_cons,List.length_nil,Nat.reduceAdd,Nat.reduceSub,List.replicate_succ,List.replicate_zero,List.cons_append,List.nil_append])
   ((repeat' (first|refine zS ?_|refine ZA fun Kx hK=>?_|(refine hK _ _ ?_;clear hK)|(apply ZF;(focus (first|exact wN|(apply ZVt;exact wY;((first|(exact ZV3 (ZVh rfl) ZAL)|(exact ZV3 (ZVh rfl) Z1)|(apply ZVy;exact ZAz;exact ZVh rfl)|(apply ZVm (c1) Tryz.call63;exact aD)|exact yG|fail);all_goals infer_instance))));dsimp only[ZC,z0,z1])|((first|refine ZM rfl rfl rfl (fun h=>?_) (fun h=>?_)|refine ZL rfl rfl rfl (fun h=>?_) (fun h=>?_)|refine ZK rfl rfl rfl (fun h=>?_) (fun h=>?_)) <;> (first|(exfalso;first|omega|contradiction)|(dsimp only[z0,z1])))|(apply Zf;exact oD;(with_reducible rfl))|(apply ZG;exact oD;all_goals (intro h;try exact xD))|refine ZVr ?_|refine ZVs ?_|refine ZVz ?_));all_goals ((repeat clear hK);repeat clear Kx))
   all_goals try exact xO
   (refine⟨trivial,⟨_,rfl,?_⟩,⟨_,rfl,?_⟩,_,rfl,?_⟩ <;> exact fD)
  ·have h4:d ≥ 8:=by omega
   (refine ZCu Tryz.func24 rfl rfl ?_;simp only[Tryz.ntmps24,List.length_cons,List.length_nil,Nat.reduceAdd,Nat.reduceSub,List.replicate_succ,List.replicate_zero,List.cons_append,List.nil_append])
   ((repeat' (first|refine zS ?_|refine ZA fun Kx hK=>?_|(refine hK _ _ ?_;clear hK)|(apply ZF;(focus (first|exact wN|(apply ZVt;exact wY;((first|(exact ZV3 (ZVh rfl) ZAL)|(exact ZV3 (ZVh rfl) Z1)|(apply ZVy;exact ZAz;exact ZVh rfl)|(apply ZVm (c1) Tryz.call63;exact aD)|exact yG|fail);all_goals infer_instance))));dsimp only[ZC,z0,z1])|((first|refine ZM rfl rfl rfl (fun h=>?_) (fun h=>?_)|refine ZL rfl rfl rfl (fun h=>?_) (fun h=>?_)|refine ZK rfl rfl rfl (fun h=>?_) (fun h=>?_)) <;> (first|(exfalso;first|omega|contradiction)|(dsimp only[z0,z1])))|(apply ZB;exact oD;all_goals (intro h;try exact xD))|(apply ZG;exact oD;all_goals (intro h;try exact xD))|refine ZVr ?_|refine ZVs ?_|refine ZVz ?_));all_goals ((repeat clear hK);repeat clear Kx))
   all_goals try exact xO
   (refine⟨trivial,⟨_,rfl,?_⟩,⟨_,rfl,?_⟩,_,rfl,?_⟩ <;> exact fD)
 rw[if_neg h2] at ho;obtain⟨k,rfl⟩:∃k:Nat,d=(k:Int):=⟨d.toNat,by omega⟩;rw[Int.toNat_natCast] at ho;have hd0:¬ (k:Int)<0:=by omega
 have hd8:¬ (k:Int) ≥ 8:=by omega
 have heul:=ZD7 h1';have h8:=ZEw heul;have hlb:=ZLN h1';have cS:=ZID l vs A k (by omega) hlb hl h8;obtain⟨f,hf⟩:∃f,Zc vs A=f:=⟨_,rfl⟩;have hlev:=ZRw (f:=f) heul (d:=k+1) (by omega);have hul:(ZEU (ZAk l f (k+1))).length=ZAj (ZAk l f (k+1)) (k+1):=by rw[ZHS,ZAO]
 have hoff:=ZKV (f:=f) heul (d:=k+1) (by omega) (k+1) (Nat.le_refl _);have hrl:=ZMp (f:=f) heul (d:=k+1) (by omega);have hk8:ZF8 l*(k+1)≤400*8:=Nat.mul_le_mul hF (by omega);have hk9:ZF8 l*8≤400*8:=Nat.mul_le_mul hF (Nat.le_refl _);have hwf:=ZI9 (f:=f) heul (d:=k+1) (by omega) (by omega);have hrs:=ZQI (f:=f) heul (d:=k) (by omega);have hfs:=ZRq (f:=f) heul (d:=k) (by omega);have cF:=ZPV l vs A k (by omega) hlb hl h8 (ZEU (ZAk l f (k+1))) (ZBb l f (ZAk l f (k+1))) (by rw[hf,hlev]) (by rw[hf];exact hrs) (by omega) (by omega) (fun r hr=>(hwf r hr).1) (fun r hr x hx=>by rw[hul];exact((hwf r hr).2 x hx).2) fun r hr x hx=>((hwf r hr).2 x hx).1;rw[hfs] at cF;rw[hf] at cS ho;rw[hlev,hrs] at cS;unfold ZMu at cS;have hUl:((ZEU (ZAk l f (k+1))).map fun p=>((p.1:Int),p.2)).length≤4096:=by rw[List.length_map];omega
 have hRl:(ZBb l f (ZAk l f (k+1))).length≤4096:=by omega
 generalize ((ZEU (ZAk l f (k+1))).map fun p=>((p.1:Int),p.2))=W at cS hUl;generalize ((ZEU (ZAk l f (k+1))).length:Int)=n at cS;generalize ZBb l f (ZAk l f (k+1))=rows at cS hRl;obtain⟨C,hC⟩:∃C,ZFU l f (k+1)=C:=⟨_,rfl⟩;rw[hC] at cF ho;subst ho;have hUI:¬ (W.length:Int)>4096:=by omega
 have hRI:¬ (rows.length:Int)>4096:=by omega
 (refine ZCu Tryz.func24 rfl rfl ?_;simp only[Tryz.ntmps24,List.length_cons,List.length_nil,Nat.reduceAdd,Nat.reduceSub,List.replicate_succ,List.replicate_zero,List.cons_append,List.nil_append])
 ((repeat' (first|(apply zV;exact yF;exact zQ)|refine ZVj ?_|refine ZA fun Kx hK=>?_|(refine hK _ _ ?_;clear hK)|refine ZVk ?_ |  (refine ZWF (dst:=some 10) ZN2 (Zj rfl rfl) fun b8=>?_;dsimp only[ZC,z0,z1]) |  (refine ZR ZHn rfl (ZVh rfl) ZA9 ?_;dsimp only[ZC,z0,z1])|(apply ZF;(focus (first|exact wN|(apply ZVt;exact wY;((first|(exact ZV3 (ZVh rfl) ZAL)|(exact ZV3 (ZVh rfl) Z1)|(apply ZVy;exact ZAz;exact ZVh rfl)|(apply ZVy;exact ZKx;exact ZVh rfl)|(apply ZVu;exact ZVh rfl;exact ZDw;exact ZCh.unt)|(apply ZVu;exact ZVh rfl;exact ZB0;exact ZDj.unt)|(apply ZAB ZEj;exact ZVh rfl)|(apply ZVm (c1) Tryz.call63;exact aD)|(apply ZVm (cS) Tryz.call64;exact aD)|(apply ZVm (cF) Tryz.call65;exact aD)|exact yG|fail);all_goals infer_instance))));dsimp only[ZC,z0,z1])|((first|refine ZM rfl rfl rfl (fun h=>?_) (fun h=>?_)|refine ZL rfl rfl rfl (fun h=>?_) (fun h=>?_)|refine ZK rfl rfl rfl (fun h=>?_) (fun h=>?_)) <;> (first|(exfalso;first|omega|contradiction)|(dsimp only[z0,z1])))|(apply ZB;exact oD;all_goals (intro h;try exact xD))|(apply ZG;exact oD;all_goals (intro h;try exact xD))|refine ZVr ?_|refine ZVs ?_));all_goals ((repeat clear hK);repeat clear Kx))
 all_goals try exact xO
 (refine⟨trivial,⟨_,rfl,?_⟩,⟨_,rfl,?_⟩,_,rfl,?_⟩ <;> exact fD)
end
section
open Go.RowKit
open C34

theorem ZGa {P:Program} {f:FuncId} {d0 d0' d1 d2 res:Dat} (h:Fn P f [d0',d1,d2] res) (hle:d0.le d0'):Fn P f [d0,d1,d2] res:=Fn.mk fun I w vs hl hv=>h.out I w vs hl fun i d hd=>by
 match i,hd with
 | 0,hd=>cases hd;exact hle _ _ _ (hv 0 d0 rfl)
 | 1,hd=>exact hv 1 _ hd
 | 2,hd=>exact hv 2 _ hd
 | i+3,hd=>simp at hd
end
section
open Go.RowKit
open C34

theorem ZRb (l:Cx) (vs:List Vx) (A:List Int) (d:Int) (hF:ZF8 l≤400):Fn Tryz.prog 23 [dS CpxL l,dS Lab (vs,A),dI d] (dT [dS ZFw (ZQr l vs A d).1,dB (ZQr l vs A d).2.1,dI (ZQr l vs A d).2.2]):=by
 unfold ZQr;by_cases h1:ZCD l vs A≠0
 ·rw[if_pos h1];exact ZGa (ZO0 l vs A d h1) ZCW
 rw[if_neg h1];have h1':ZCD l vs A=0:=Classical.byContradiction h1;by_cases h2:d<0\/8≤d
 ·rw[if_pos h2];exact ZGa (ZO1 l vs A d h1' h2) ZCW
 rw[if_neg h2];obtain⟨k,rfl⟩:∃k:Nat,d=(k:Int):=⟨d.toNat,by omega⟩;rw[Int.toNat_natCast];by_cases h3:l=[]
 ·subst h3;exact ZGa (ZGH (S:=True) [] vs A k h1' (by omega) hF (fun _=>by unfold ZEr;simp) (.inr trivial)) (fun I w v h=>ZFn trivial I w v (ZCW I w v h))
 ·exact ZGH (S:=False) l vs A k h1' (by omega) hF (fun h=>h.elim) (.inl h3)
theorem certifies34_p (l:Cx) (vs:List Vx) (A:List Int) (d:Int):Fn Tryz.prog 6 [dS CpxL l,dS Lab (vs,A),dI d] (dB true):=by
 have cA:=ZJt;have cF:=ZPR l [(vs,A)];cases hf:ZLV l [(vs,A)] with
 | false =>
  rw[hf] at cF;refine zE Tryz.func6 51 ?_;((repeat' (first|refine zS ?_|refine ZA fun Kx hK=>?_|(refine hK _ _ ?_;clear hK)|(apply ZF;(focus (first|exact wN|(apply ZVt;exact wY;((first|(exact ZV3 (ZVh rfl) (fun I w v h=>ZAL I w v (ZCW I w v h)))|(exact ZV3 (ZVh rfl) Z1)|(apply ZVy;exact ZAz;exact ZVh rfl)|(exact ZWg (R:=Lab) (_gR:=inferInstance) (els:=[(vs,A)]) ZSt (Zp (ZVh rfl) Zr) rfl rfl (by decide) (fun _=>Z1) (by simp))|(apply ZVm cF Tryz.call9;exact ZV9 (ZWD rfl ZCW) (ZV9 (ZVh rfl) ZWJ))|(apply ZVm (cA) Tryz.call10;exact aD)|exact yG|fail);all_goals infer_instance))));dsimp only[ZC,z0,z1])|(apply ZO;exact oD;all_goals (intro h;try exact xD))|refine ZVs ?_|refine ZVz ?_));all_goals ((repeat clear hK);repeat clear Kx))
  all_goals try exact xO
  all_goals (refine⟨trivial,_,rfl,?_⟩;exact fD)
 | true =>
  rw[hf] at cF;obtain⟨_,q2,q3⟩:=ZJ6 hf;have hl:=ZLW q2;have c1:=ZRb l vs A d q3;have c2:=ZQA l vs A d (by omega) q3;generalize ZQr l vs A d=R at *;obtain⟨r1,r2,r3⟩:=R;simp only at c1 c2;have c3:=ZKl r1;refine zE Tryz.func6 51 ?_;((repeat' (first|refine zS ?_|refine ZA fun Kx hK=>?_|(refine hK _ _ ?_;clear hK)|(apply ZF;(focus (first|exact wN|(apply ZVt;exact wY;((first|(exact ZV3 (ZVh rfl) (fun I w v h=>ZAL I w v (ZCW I w v h)))|(exact ZV3 (ZVh rfl) Z1)|(apply ZVy;exact ZAz;exact ZVh rfl)|(exact ZWg (R:=Lab) (_gR:=inferInstance) (els:=[(vs,A)]) ZSt (Zp (ZVh rfl) Zr) rfl rfl (by decide) (fun _=>Z1) (by simp))|(exact ZDO (ZVh rfl))|(apply ZVm cF Tryz.call9;exact ZV9 (ZWD rfl ZCW) (ZV9 (ZVh rfl) ZWJ))|(apply ZVm (cA) Tryz.call10;exact aD)|(apply ZVm (c1) Tryz.call23;exact aD)|(apply ZVm c2 Tryz.call24;exact ZV9 (ZWD rfl ZCW) (ZV9 (ZVh rfl) (ZV9 (ZVh rfl) ZWJ)))|(apply ZVm (c3) Tryz.call25;exact aD)|(exact ZTM (ZVh rfl) (ZVh rfl))|(exact ZEb (b:=true) (decide_eq_true rfl) (ZVh rfl) (ZVh rfl))|exact yG|fail);all_goals infer_instance))));dsimp only[ZC,z0,z1])|(apply ZQ;exact oD;(with_reducible rfl))|refine ZVr ?_|refine ZVs ?_));all_goals ((repeat clear hK);repeat clear Kx))
  all_goals try exact xO
  all_goals (refine⟨trivial,_,rfl,?_⟩;exact fD)
end
section
open Go.ChangeShapes Go.WideShapes Go.ChangeAt Go.RowKit

section
variable {H:Type} {enc:TypeId × Value->H}
theorem open_N' {w:World} {r:Reach} {b0:Nat} {v:Value} {d:DataW H} {ps:List MemPlace} (hv:Value.okWide Tryz.prog w r b0 3 v) (h:DataW.Trod enc Tryz.prog w 0 (fun _=>true) true 3 v d ps):∃n:Int,(dI n).rd anyB w v /\ -9223372036854775808≤n/\n≤9223372036854775807:=by
 obtain⟨n,rfl,_,_,hw⟩:=open_int Tryz.underlying3 hv h;exact⟨n,rfl,by simpa[Lit.wf,IntKind.min,IntKind.max,IntKind.signed,IntKind.bits] using hw⟩
end

section
variable {H:Type} {enc:TypeId × Value->H}

end
end
section
open Go.ChangeShapes Go.WideShapes Go.ChangeAt Go.RowKit
section
variable {H:Type} {enc:TypeId × Value->H}
theorem ZLO:Tryz.prog.cellsOf 25=2:=by kernel_rfl
theorem ZGn:Tryz.prog.cellsOf 23=1:=by kernel_rfl
theorem ZPo {w:World} {fuel:Nat} {v:Value} {x:DataW H × List MemPlace} (h:DataW.trod enc Tryz.prog w 0 (fun _=>true) true fuel 23 [v]=some x) :
  ∃xs,ZAQ anyB w v xs:=by
 rcases Deep.open_slice1 Tryz.underlying23 ZMG h with ⟨hc,_⟩|⟨a,len,cap,m,n,V,D,Pl,hc,_,hl,hm,hmm,_,hx⟩
 ·obtain rfl:v = .slice none 0 0:=by simpa using hc
  exact⟨[],ZB5⟩
 ·obtain rfl:v = .slice (some a) len cap:=by simpa using hc
  simp only[if_true] at hmm;subst hmm;have hz:∀i,∃c:Int,i<m->V i = .int .i64 c:=fun i=>by
   by_cases hi:i<m
   ·obtain⟨c,ec,_⟩:=DataW.trod_int Tryz.underlying3 (hx i hi).2;exact⟨c,fun _=>by simpa using ec⟩
   ·exact⟨0,fun h=>absurd h hi⟩
  obtain⟨z,hz⟩:=Classical.axiomOfChoice hz;have hlen:((List.range len).map z).length=len:=by simp
  refine⟨(List.range len).map z,some a,m,by rw[hlen],by rw[hlen];exact hl,hm,fun k hk=>?_⟩;rw[hlen] at hk;obtain⟨h0,_⟩:=hx k (by omega);have hs:=World.cell?_spot (hx 0 (by omega)).1;obtain⟨b,off,sp⟩:=a;obtain rfl:sp=none:=by simpa[Addr.add] using hs
  have hv:=hz k (by omega);refine⟨V k,b,off,by simpa[RI] using hv,by rw[hv];rfl,rfl,trivial,by rw[Addr.add_lit] at h0;exact h0⟩
theorem open_Lb' {w:World} {r:Reach} {b0:Nat} {v:Value} {d:DataW H} {ps:List MemPlace} (hv:Value.okWide Tryz.prog w r b0 25 v) (h:DataW.Trod enc Tryz.prog w 0 (fun _=>true) true 25 v d ps):∃x:List Vx × List Int,(dS Lab x).rd anyB w v:=by
 obtain⟨fuel,h⟩:=h;obtain⟨cs,rfl,hcs⟩:=okWide_struct Tryz.underlying25 hv;rw[ZLO] at hcs;obtain⟨u,u',rfl⟩:∃u u',cs=#[u,u']:=by
  obtain⟨l⟩:=cs
  match l,hcs with
  | [u,u'],_=>exact⟨u,u',rfl⟩
 obtain⟨y0,y1,n,hy,hl,h0,h1⟩:=trod_struct2 Tryz.underlying25 h;have h0':DataW.trod enc Tryz.prog w 0 (fun _=>true) true n 22 [u]=some y0:=by
  simpa[Value.cells,ZJy,ZGn] using h0
 have h1':DataW.trod enc Tryz.prog w 0 (fun _=>true) true n 23 [u']=some y1:=by
  simpa[Value.cells,ZJy,ZGn] using h1
 obtain⟨xs,hx⟩:=ZMf h0';obtain⟨ys,hy⟩:=ZPo h1';refine⟨(xs,ys),u,u',rfl,?_,?_,hx,hy⟩
 ·obtain⟨a,c,hu,_⟩:=hx;rw[hu];rfl
 ·obtain⟨a,c,hu,_⟩:=hy;rw[hu];rfl
end
end
end Go.Proofs.YtofkoleingbbpaaGreatDoor
