/- Part 26: walks by contracts, and plain laws. -/
import Derived.Test.YtofkoleingbbpaaGreatDoorXa25
set_option linter.unusedVariables false
set_option linter.unusedSimpArgs false
set_option linter.unusedSectionVars false
set_option maxRecDepth 100000
set_option maxHeartbeats 64000000
namespace Go.Proofs.YtofkoleingbbpaaGreatDoor
section
open Go.RowKit

theorem ZHt:∀ {p:Option Vx} {vs:List Vx} {A:List Int},A.length=vs.length->ZF5 p vs A=0->Asc vs/\(∀u∈p,∀v∈vs,ZAd u v<0)/\(∀v∈vs,ZDL v=true)/\∀a∈A,1≤a/\a<256
 | _,[],[],_,_=>⟨by simp[Asc],by simp,by simp,by simp⟩
 | _,[],_::_,h,_=>by simp at h
 | _,_::_,[],h,_=>by simp at h
 | p,v::vs,a::A,h,h0=>by
  unfold ZF5 at h0;by_cases h1:ZDL v=false
  ·rw[if_pos h1] at h0;cases h0
  rw[if_neg h1] at h0;by_cases h2:ZSo p v
  ·rw[if_pos h2] at h0;cases h0
  rw[if_neg h2] at h0;by_cases h3:a<1\/256≤a
  ·rw[if_pos h3] at h0;cases h0
  rw[if_neg h3] at h0;obtain⟨k1,k2,k3,k4⟩:=ZHt (by simpa using h) h0;have hv:=k2 v rfl;refine⟨List.pairwise_cons.2 ⟨hv,k1⟩,fun u hu w hw=>?_,fun w hw=>?_,fun b hb=>?_⟩
  ·have huv:ZAd u v<0:=by
    cases p with
    | none=>cases hu
    | some u' =>
     cases hu;have:¬ 0≤ZAd u v:=h2;omega
   rcases List.mem_cons.1 hw with rfl|hw
   ·exact huv
   ·exact ZBC huv (hv w hw)
  ·rcases List.mem_cons.1 hw with rfl|hw
   ·simpa using h1
   ·exact k3 w hw
  ·rcases List.mem_cons.1 hb with rfl|hb
   ·omega
   ·exact k4 b hb
theorem ZAp {vs:List Vx} {A:List Int} (h:ZAW vs A=0):vs.length≤4096/\A.length=vs.length/\Asc vs/\(∀v∈vs,ZDL v=true)/\∀a∈A,1≤a/\a<256:=by
 unfold ZAW at h;by_cases h1:4096<vs.length
 ·rw[if_pos h1] at h;cases h
 rw[if_neg h1] at h;by_cases h2:A.length≠vs.length
 ·rw[if_pos h2] at h;cases h
 rw[if_neg h2] at h;have hA:A.length=vs.length:=Classical.byContradiction h2;obtain⟨k1,_,k3,k4⟩:=ZHt hA h;exact⟨by omega,hA,k1,k3,k4⟩
def ZS6 (l:Cx) (f:Vx->Int):Cx:=l.filter fun s=>decide (orL f s=((2 ^ s.length-1:Nat):Int))
def ZK9 (l:Cx) (vs:List Vx) (A:List Int):Cx × Int :=
 if ZBB l≠0 then([],ZBB l) else if ZAW vs A≠0 then([],ZAW vs A) else if ZGJ l (Zd vs A)=false then([],6) else if ZUj A=false then([],3) else(ZS6 l (Zd vs A),0)
theorem ZKe {l:Cx} {f:Vx->Int} {k:Nat} (h:k<l.length):ZS6 (l.take (k+1)) f=ZS6 (l.take k) f++(if orL f l[k]=((2 ^ l[k].length-1:Nat):Int) then[l[k]] else[]):=by
 unfold ZS6;rw[Zf h,List.filter_append];congr 1;by_cases hp:orL f l[k]=((2 ^ l[k].length-1:Nat):Int)
 ·rw[if_pos hp,List.filter_cons_of_pos (by simpa using hp)];rfl
 ·rw[if_neg hp,List.filter_cons_of_neg (by simpa using hp)];rfl
theorem ZKd (l:Cx) (vs:List Vx) (A:List Int):Fn Tryz.prog 15 [dS Cpx l,dS Lab (vs,A)] (dT [dS Zh (ZK9 l vs A).1,dI (ZK9 l vs A).2]):=by
 have c1:=ZCg l;have c2:=ZFW vs A;(refine Z9 Tryz.func15 rfl rfl ?_;simp only[Tryz.ntmps15,List.length_cons,List.length_nil,Nat.reduceAdd,Nat.reduceSub,List.replicate_succ,List.replicate_zero,List.cons_append,List.nil_append])
 (first|refine ZR (t:=0) rfl ZEH fun hl0=>?_|refine ZR (t:=0) rfl ZDu fun hl0=>?_|refine ZR (t:=0) rfl ZJS fun hl0=>?_);simp only[maxLen] at hl0
 by_cases h1:ZBB l≠0
 ·have e:ZK9 l vs A=([],ZBB l):=by unfold ZK9;rw[if_pos h1]
  rw[e];((repeat' (first|((first|apply WL.opN|apply WD.opN);exact yF;dsimp only[ZC,z0,z1])|refine WL.nil ?_|refine ZA fun Kx hK=>?_|(refine hK _ _ ?_;clear hK)|refine WC.region ?_|((first|apply WL.opN|apply WD.opN);(focus ((first|(apply SY.call (c1) Tryz.call43;(exact aD))|((first|apply SY.move|apply SY.assign|apply SY.lss|apply SY.eql|apply SY.neq|apply SY.not) <;> (exact oD))|(apply SY.box;(exact oD);(exact hD))|fail);all_goals infer_instance));dsimp only[ZC,z0,z1])|(apply ZG;(exact oD);all_goals (intro h;try exact xD))|refine WC.ret ?_|refine ThenD.r ?_));all_goals (first|((repeat clear hK);(repeat clear Kx))))
  all_goals try (exfalso;first|contradiction|omega)
  (refine⟨trivial,⟨_,rfl,?_⟩,_,rfl,?_⟩ <;> exact fD)
 by_cases h2:ZAW vs A≠0
 ·have e:ZK9 l vs A=([],ZAW vs A):=by unfold ZK9;rw[if_neg h1,if_pos h2]
  have h1':ZBB l=0:=Classical.byContradiction h1;rw[e];rw[h1'] at c1;((repeat' (first|((first|apply WL.opN|apply WD.opN);exact yF;dsimp only[ZC,z0,z1])|refine WL.nil ?_|refine ZA fun Kx hK=>?_|(refine hK _ _ ?_;clear hK)|refine WC.region ?_|((first|apply WL.opN|apply WD.opN);(focus ((first|(apply SY.call (c1) Tryz.call43;(exact aD))|(apply SY.call (c2) Tryz.call13;(exact aD))|(apply SY.load;exact ZAz;exact OpD.t rfl)|((first|apply SY.move|apply SY.assign|apply SY.lss|apply SY.eql|apply SY.neq|apply SY.not) <;> (exact oD))|(apply SY.box;(exact oD);(exact hD))|fail);all_goals infer_instance));dsimp only[ZC,z0,z1])|(apply ZG;(exact oD);all_goals (intro h;try exact xD))|refine WC.skip ?_|refine WC.ret ?_|refine ThenD.r ?_));all_goals (first|((repeat clear hK);(repeat clear Kx))))
  all_goals try (exfalso;first|contradiction|omega)
  (refine⟨trivial,⟨_,rfl,?_⟩,_,rfl,?_⟩ <;> exact fD)
 have h1':ZBB l=0:=Classical.byContradiction h1;have h2':ZAW vs A=0:=Classical.byContradiction h2;rw[h1'] at c1;rw[h2'] at c2;obtain⟨g1,g2,g3,g4,g5⟩:=ZAp h2';have c3:=ZGK l vs A g3 g2 (by omega);have c4:=ZMq vs A fun m hm=>by have:=g5 m hm;omega
 cases h3:ZGJ l (Zd vs A) with
 | false =>
  have e:ZK9 l vs A=([],6):=by unfold ZK9;rw[if_neg h1,if_neg h2,if_pos h3]
  rw[e];rw[h3] at c3;((repeat' (first|((first|apply WL.opN|apply WD.opN);exact yF;dsimp only[ZC,z0,z1])|refine WL.nil ?_|refine ZA fun Kx hK=>?_|(refine hK _ _ ?_;clear hK)|refine WC.region ?_|((first|apply WL.opN|apply WD.opN);(focus ((first|(apply SY.call (c1) Tryz.call43;(exact aD))|(apply SY.call (c2) Tryz.call13;(exact aD))|(apply SY.call (c3) Tryz.call44;(exact aD))|(apply SY.load;exact ZAz;exact OpD.t rfl)|((first|apply SY.move|apply SY.assign|apply SY.lss|apply SY.eql|apply SY.neq|apply SY.not) <;> (exact oD))|(apply SY.box;(exact oD);(exact hD))|fail);all_goals infer_instance));dsimp only[ZC,z0,z1])|(apply ZG;(exact oD);all_goals (intro h;try exact xD))|(apply ZO;(exact oD);all_goals (intro h;try exact xD))|refine WC.skip ?_|refine WC.ret ?_|refine WC.block ?_|refine ThenD.r ?_|refine InBlockD.r ?_));all_goals (first|((repeat clear hK);(repeat clear Kx))))
  all_goals try (exfalso;first|contradiction|omega)
  (refine⟨trivial,⟨_,rfl,?_⟩,_,rfl,?_⟩ <;> exact fD)
 | true =>
  rw[h3] at c3;cases h4:ZUj A with
  | false =>
   have e:ZK9 l vs A=([],3):=by unfold ZK9;rw[if_neg h1,if_neg h2,if_neg (by simp[h3]),if_pos h4]
   rw[e];rw[h4] at c4;((repeat' (first|((first|apply WL.opN|apply WD.opN);exact yF;dsimp only[ZC,z0,z1])|refine WL.nil ?_|refine ZA fun Kx hK=>?_|(refine hK _ _ ?_;clear hK)|refine WC.region ?_|((first|apply WL.opN|apply WD.opN);(focus ((first|(apply SY.call (c1) Tryz.call43;(exact aD))|(apply SY.call (c2) Tryz.call13;(exact aD))|(apply SY.call (c3) Tryz.call44;(exact aD))|(apply SY.call (c4) Tryz.call35;(exact aD))|(apply SY.load;exact ZAz;exact OpD.t rfl)|((first|apply SY.move|apply SY.assign|apply SY.lss|apply SY.eql|apply SY.neq|apply SY.not) <;> (exact oD))|(apply SY.box;(exact oD);(exact hD))|fail);all_goals infer_instance));dsimp only[ZC,z0,z1])|(apply ZG;(exact oD);all_goals (intro h;try exact xD))|(apply ZO;(exact oD);all_goals (intro h;try exact xD))|refine WC.skip ?_|refine WC.ret ?_|refine WC.block ?_|refine ThenD.r ?_|refine InBlockD.r ?_));all_goals (first|((repeat clear hK);(repeat clear Kx))))
   all_goals try (exfalso;first|contradiction|omega)
   (refine⟨trivial,⟨_,rfl,?_⟩,_,rfl,?_⟩ <;> exact fD)
  | true =>
   have e:ZK9 l vs A=(ZS6 l (Zd vs A),0):=by unfold ZK9;rw[if_neg h1,if_neg h2,if_neg (by simp[h3]),if_neg (by simp[h4])]
   rw[e];rw[h4] at c4;have hG:=ZAY.1 h1';have hl4:l.length≤4096:=hG.1;(repeat' (first|((first|apply WL.opN|apply WD.opN);exact yF;dsimp only[ZC,z0,z1])|refine WL.nil ?_|refine ZA fun Kx hK=>?_|(refine hK _ _ ?_;clear hK)|refine WC.region ?_|((first|apply WL.opN|apply WD.opN);(focus ((first|(apply SY.call (c1) Tryz.call43;(exact aD))|(apply SY.call (c2) Tryz.call13;(exact aD))|(apply SY.call (c3) Tryz.call44;(exact aD))|(apply SY.call (c4) Tryz.call35;(exact aD))|(apply SY.load;exact ZAz;exact OpD.t rfl)|((first|apply SY.move|apply SY.assign|apply SY.lss|apply SY.eql|apply SY.neq|apply SY.not) <;> (exact oD))|(apply SY.len;(exact oD);(exact nD);(exact uD))|(apply ZDM ZNx;exact OpD.t rfl)|(apply SY.box;(exact oD);(exact hD))|fail);all_goals infer_instance));dsimp only[ZC,z0,z1])|(apply ZG;(exact oD);all_goals (intro h;try exact xD))|(apply ZO;(exact oD);all_goals (intro h;try exact xD))|refine WC.skip ?_|refine WC.block ?_))
   all_goals try (exfalso;first|contradiction|omega)
   refine Zq 22 ZM ?_;(refine WC.loopU (X:=Nat × Value) (fun x=>[(8,dX x.2),(33,dI (x.1:Int)),(10,dA),(34,dA),(35,dA),(36,dA),(37,dA),(38,dA),(39,dA),(40,dA),(41,dA),(42,dA),(43,dA),(44,dA),(45,dA),(46,dA),(47,dA),(48,dA),(49,dA),(50,dA),(51,dA)]) (fun x=>[Zk x.2 22 ZM (ZS6 (l.take x.1) (Zd vs A))]) (fun x=>l.length-x.1) (fun x=>x.1≤l.length) (0,.slice none 0 0) ?start ?frame0 ?objs0 ?round)
   case start=>simp
   case frame0=>exact zFr
   case objs0=>rfl
   case round =>
    rintro⟨k,u⟩ q1;simp only at q1;dsimp only[ZL,z0,z1];have hol:(ZS6 (l.take k) (Zd vs A)).length≤1000000:=by
     unfold ZS6;have:=List.length_filter_le (fun s:List Vx=>decide (orL (Zd vs A) s=((2 ^ s.length-1:Nat):Int))) (l.take k);rw[List.length_take] at this;omega
    by_cases hk:k<l.length
    ·have h8:l[k].length≤8:=hG.short _ (List.getElem_mem hk);have hshl:=ZRt ⟨l[k].length,by omega⟩;simp only at hshl;have hpp:0<2 ^ l[k].length:=Nat.two_pow_pos _;have hp9:2 ^ l[k].length≤2 ^ 8:=Nat.pow_le_pow_right (by decide) h8;by_cases hrb:orL (Zd vs A) l[k]=((2 ^ l[k].length-1:Nat):Int)
     ·((repeat' (first|((first|apply WL.opN|apply WD.opN);exact yF;dsimp only[ZC,z0,z1])|refine WL.nil ?_|refine WD.nil ?_|refine ZA fun Kx hK=>?_|(refine hK _ _ ?_;clear hK)|refine WC.region ?_|(apply WC.draw;kernel_rfl;kernel_rfl)|((first|apply Zs|apply Zl);(exact eD);exact OpD.t rfl;(exact oD);(intro _;exact hD);(exact(by simp));(exact(by simp));(first|exact⟨by decide,by decide⟩|skip);decide;(exact lD);(intro _;dsimp only[ZC,z0,z1]);all_goals (try infer_instance))|((first|apply WL.opN|apply WD.opN);(focus ((first|(apply SY.load;exact ZAz;exact OpD.t rfl)|(apply SY.call (ZGM vs A g3 g2 (by omega)) Tryz.call46;(exact aD))|(apply SY.call (ZFq l[k] (Zd vs A)) Tryz.call45;(exact aD))|(exact ZOJ hshl (by omega) OpD.i (OpD.t rfl))|(refine ZOM (c:=((2 ^ l[k].length-1:Nat):Int)) (by omega) (by omega) (OpD.t rfl) OpD.i)|(apply SY.call (ZIZ l[k] (by omega)) Tryz.call47;(exact aD))|((first|apply SY.move|apply SY.assign|apply SY.lss|apply SY.eql|apply SY.neq|apply SY.not) <;> (exact oD))|((first|apply SY.add|apply SY.sub) <;> first|exact oD|omega)|(apply SY.len;(exact oD);(exact nD);(exact uD))|(apply SY.ix;(exact eD);(exact oD);(exact oD);exact kD)|fail);all_goals infer_instance));dsimp only[ZC,z0,z1])|(apply ZB;(exact oD);all_goals (intro h;try exact xD))|refine WC.skip ?_|refine WC.block ?_|refine ThenD.n ?_));all_goals (first|((repeat clear hK);(repeat clear Kx))))
      all_goals try (exfalso;first|contradiction|omega)
      (refine⟨(k+1,_) , ?_,by first|omega|(simp only;omega),by((try simp only);  (rw[ZKe hk,if_pos hrb])),?_⟩;rotate_left;((try dsimp only[ZL,z0,z1]);repeat (first|exact LeF.nil|refine ZD (k:=?_)));(try dsimp only))
      omega
     ·((repeat' (first|((first|apply WL.opN|apply WD.opN);exact yF;dsimp only[ZC,z0,z1])|refine WL.nil ?_|refine WD.nil ?_|refine ZA fun Kx hK=>?_|(refine hK _ _ ?_;clear hK)|refine WC.region ?_|(apply WC.draw;kernel_rfl;kernel_rfl)|((first|apply WL.opN|apply WD.opN);(focus ((first|(apply SY.load;exact ZAz;exact OpD.t rfl)|(apply SY.call (ZGM vs A g3 g2 (by omega)) Tryz.call46;(exact aD))|(apply SY.call (ZFq l[k] (Zd vs A)) Tryz.call45;(exact aD))|(exact ZOJ hshl (by omega) OpD.i (OpD.t rfl))|(refine ZOM (c:=((2 ^ l[k].length-1:Nat):Int)) (by omega) (by omega) (OpD.t rfl) OpD.i)|((first|apply SY.move|apply SY.assign|apply SY.lss|apply SY.eql|apply SY.neq|apply SY.not) <;> (exact oD))|((first|apply SY.add|apply SY.sub) <;> first|exact oD|omega)|(apply SY.len;(exact oD);(exact nD);(exact uD))|(apply SY.ix;(exact eD);(exact oD);(exact oD);exact kD)|fail);all_goals infer_instance));dsimp only[ZC,z0,z1])|(apply ZB;(exact oD);all_goals (intro h;try exact xD))|refine WC.skip ?_|refine WC.block ?_|refine ThenD.n ?_));all_goals (first|((repeat clear hK);(repeat clear Kx))))
      all_goals try (exfalso;first|contradiction|omega)
      (refine⟨(k+1,_) , ?_,by first|omega|(simp only;omega),by((try simp only);  (rw[ZKe hk,if_neg hrb,List.append_nil])),?_⟩;rotate_left;((try dsimp only[ZL,z0,z1]);repeat (first|exact LeF.nil|refine ZD (k:=?_)));(try dsimp only))
      omega
    ·have hle:l.take k=l:=List.take_of_length_le (by omega);rw[hle];((repeat' (first|((first|apply WL.opN|apply WD.opN);exact yF;dsimp only[ZC,z0,z1])|refine WL.nil ?_|refine ZA fun Kx hK=>?_|(refine hK _ _ ?_;clear hK)|(refine Kont.skip ?_;clear hK)|refine WC.region ?_|((first|apply WL.opN|apply WD.opN);(focus ((first|((first|apply SY.move|apply SY.assign|apply SY.lss|apply SY.eql|apply SY.neq|apply SY.not) <;> (exact oD))|fail);all_goals infer_instance));dsimp only[ZC,z0,z1])|(apply ZB;(exact oD);all_goals (intro h;try exact xD))|refine WC.ret ?_|refine WC.exit ?_));all_goals (first|((repeat clear hK);(repeat clear Kx))))
     all_goals try (exfalso;omega)
     (refine⟨trivial,⟨_,rfl,?_⟩,_,rfl,?_⟩ <;> exact fD)
end
section
open Go.RowKit

def ZQX (A B:List Int):Bool:=(List.range B.length).all fun i=>!decide (ZQr (B.getD i 0) (A.getD i 0)=0)
def ZKt (vs:List Vx) (A:List Int) (ws:List Vx) (B:List Int):Bool × Int :=
 if ZAW vs A≠0 then(false,ZAW vs A) else if ZAW ws B≠0 then(false,ZAW ws B) else if ZUj B=false then(false,3) else if vs=ws then(ZQX A B,0) else(false,0)
theorem ZSR {A B:List Int} {i:Nat} (hi:i<B.length) (hA:i<A.length) (h:ZQr B[i] A[i]=0):ZQX A B=false:=by
 unfold ZQX;rw[List.all_eq_false];refine⟨i,List.mem_range.2 hi,?_⟩;simp[List.getD_eq_getElem?_getD,List.getElem?_eq_getElem hi,List.getElem?_eq_getElem hA,h]
theorem ZQY {A B:List Int} (hl:A.length=B.length) (h:∀i (hi:i<B.length) (hA:i<A.length),ZQr B[i] A[i]≠0):ZQX A B=true:=by
 unfold ZQX;rw[List.all_eq_true];intro i hi;have hi:=List.mem_range.1 hi;have hA:i<A.length:=by omega
 have:=h i hi hA;simp[List.getD_eq_getElem?_getD,List.getElem?_eq_getElem hi,List.getElem?_eq_getElem hA,this]
theorem ZUU (vs:List Vx) (A:List Int) (ws:List Vx) (B:List Int):Fn Tryz.prog 11 [dS Lab (vs,A),dS Lab (ws,B)] (dT [dB (ZKt vs A ws B).1,dI (ZKt vs A ws B).2]):=by
 have c1:=ZFW vs A;have c2:=ZFW ws B;obtain⟨o,ho⟩:∃o,ZKt vs A ws B=o:=⟨_,rfl⟩;rw[ho];unfold ZKt at ho;by_cases h1:ZAW vs A≠0
 ·rw[if_pos h1] at ho;subst ho;(refine Z9 Tryz.func11 rfl rfl ?_;simp only[Tryz.ntmps11,List.length_cons,List.length_nil,Nat.reduceAdd,Nat.reduceSub,List.replicate_succ,List.replicate_zero,List.cons_append,List.nil_append])
  ((repeat' (first|(apply WL.opN;exact yF;dsimp only[ZC,z0,z1])|refine WL.nil ?_|refine ZA fun Kx hK=>?_|(refine hK _ _ ?_;clear hK)|refine WC.region ?_|(apply WL.opN;(focus ((first|(apply SY.load;exact ZAz;exact OpD.t rfl)|(apply SY.call (c1) Tryz.call13;exact ArgsD.cons (OpD.t rfl) (ArgsD.nil))|((first|apply SY.move|apply SY.assign|apply SY.lss|apply SY.eql|apply SY.neq|apply SY.and|apply SY.not) <;> (exact oD))|(apply SY.box;(exact oD);(exact hD))|fail);all_goals infer_instance));dsimp only[ZC,z0,z1])|(apply ZG;(exact oD);all_goals (intro h;try exact xD))|refine WC.ret ?_|refine ThenD.r ?_));all_goals (first|((repeat clear hK);(repeat clear Kx))))
  all_goals try (exfalso;first|contradiction|omega)
  (refine⟨trivial,⟨_,rfl,?_⟩,_,rfl,?_⟩ <;> exact fD)
 rw[if_neg h1] at ho;have h1':ZAW vs A=0:=Classical.byContradiction h1;rw[h1'] at c1;by_cases h2:ZAW ws B≠0
 ·rw[if_pos h2] at ho;subst ho;(refine Z9 Tryz.func11 rfl rfl ?_;simp only[Tryz.ntmps11,List.length_cons,List.length_nil,Nat.reduceAdd,Nat.reduceSub,List.replicate_succ,List.replicate_zero,List.cons_append,List.nil_append])
  ((repeat' (first|(apply WL.opN;exact yF;dsimp only[ZC,z0,z1])|refine WL.nil ?_|refine ZA fun Kx hK=>?_|(refine hK _ _ ?_;clear hK)|refine WC.region ?_|(apply WL.opN;(focus ((first|(apply SY.load;exact ZAz;exact OpD.t rfl)|(apply SY.call (c1) Tryz.call13;exact ArgsD.cons (OpD.t rfl) (ArgsD.nil))|(apply SY.call (c2) Tryz.call13;exact ArgsD.cons (OpD.t rfl) (ArgsD.nil))|((first|apply SY.move|apply SY.assign|apply SY.lss|apply SY.eql|apply SY.neq|apply SY.and|apply SY.not) <;> (exact oD))|(apply SY.box;(exact oD);(exact hD))|fail);all_goals infer_instance));dsimp only[ZC,z0,z1])|(apply ZG;(exact oD);all_goals (intro h;try exact xD))|refine WC.skip ?_|refine WC.ret ?_|refine ThenD.r ?_));all_goals (first|((repeat clear hK);(repeat clear Kx))))
  all_goals try (exfalso;first|contradiction|omega)
  (refine⟨trivial,⟨_,rfl,?_⟩,_,rfl,?_⟩ <;> exact fD)
 rw[if_neg h2] at ho;have h2':ZAW ws B=0:=Classical.byContradiction h2;rw[h2'] at c2;obtain⟨f1,f2,f3,f4,f5⟩:=ZAp h1';obtain⟨g1,g2,g3,g4,g5⟩:=ZAp h2';have c4:=ZMq ws B fun m hm=>by have:=g5 m hm;omega
 have c5:=ZU5 vs ws;by_cases h3:ZUj B=false
 ·rw[if_pos h3] at ho;subst ho;rw[h3] at c4;(refine Z9 Tryz.func11 rfl rfl ?_;simp only[Tryz.ntmps11,List.length_cons,List.length_nil,Nat.reduceAdd,Nat.reduceSub,List.replicate_succ,List.replicate_zero,List.cons_append,List.nil_append])
  ((repeat' (first|(apply WL.opN;exact yF;dsimp only[ZC,z0,z1])|refine WL.nil ?_|refine ZA fun Kx hK=>?_|(refine hK _ _ ?_;clear hK)|refine WC.region ?_|(apply WL.opN;(focus ((first|(apply SY.load;exact ZAz;exact OpD.t rfl)|(apply SY.call (c1) Tryz.call13;exact ArgsD.cons (OpD.t rfl) (ArgsD.nil))|(apply SY.call (c2) Tryz.call13;exact ArgsD.cons (OpD.t rfl) (ArgsD.nil))|(apply SY.call (c4) Tryz.call35;(exact aD))|((first|apply SY.move|apply SY.assign|apply SY.lss|apply SY.eql|apply SY.neq|apply SY.and|apply SY.not) <;> (exact oD))|(apply SY.box;(exact oD);(exact hD))|fail);all_goals infer_instance));dsimp only[ZC,z0,z1])|(apply ZG;(exact oD);all_goals (intro h;try exact xD))|(apply ZO;(exact oD);all_goals (intro h;try exact xD))|refine WC.skip ?_|refine WC.ret ?_|refine ThenD.r ?_));all_goals (first|((repeat clear hK);(repeat clear Kx))))
  all_goals try (exfalso;first|contradiction|omega)
  (refine⟨trivial,⟨_,rfl,?_⟩,_,rfl,?_⟩ <;> exact fD)
 rw[if_neg h3] at ho;have h3':ZUj B=true:=by simpa using h3
 rw[h3'] at c4;by_cases h4:vs=ws
 ·rw[if_pos h4] at ho;rw[decide_eq_true h4] at c5;have hAB:A.length=B.length:=by rw[f2,g2,h4]
  (refine Z9 Tryz.func11 rfl rfl ?_;simp only[Tryz.ntmps11,List.length_cons,List.length_nil,Nat.reduceAdd,Nat.reduceSub,List.replicate_succ,List.replicate_zero,List.cons_append,List.nil_append])
  (repeat' (first|(apply WL.opN;exact yF;dsimp only[ZC,z0,z1])|refine WL.nil ?_|refine ZA fun Kx hK=>?_|(refine hK _ _ ?_;clear hK)|refine WC.region ?_|(apply WL.opN;(focus ((first|(apply SY.load;exact ZAz;exact OpD.t rfl)|(refine ZV ZAO (OpD.t rfl) Zx rfl rfl)|(apply SY.load;exact ZEM;exact OpD.t rfl)|(apply SY.call (c1) Tryz.call13;exact ArgsD.cons (OpD.t rfl) (ArgsD.nil))|(apply SY.call (c2) Tryz.call13;exact ArgsD.cons (OpD.t rfl) (ArgsD.nil))|(apply SY.call (c4) Tryz.call35;(exact aD))|(apply SY.call (c5) Tryz.call36;(exact aD))|((first|apply SY.move|apply SY.assign|apply SY.lss|apply SY.eql|apply SY.neq|apply SY.and|apply SY.not) <;> (exact oD))|(apply SY.len;(exact oD);(exact nD);(exact uD))|(apply SY.box;(exact oD);(exact hD))|fail);all_goals infer_instance));dsimp only[ZC,z0,z1])|(apply ZG;(exact oD);all_goals (intro h;try exact xD))|(apply ZO;(exact oD);all_goals (intro h;try exact xD))|refine WC.skip ?_|refine WC.block ?_))
  all_goals try (exfalso;first|contradiction|omega)
  (refine WC.loopU (X:=Nat) (fun k=>[(32,dI (k:Int)),(4,dA),(5,dA),(8,dA),(9,dA),(33,dA),(34,dA),(35,dA),(36,dA),(37,dA),(38,dA),(39,dA),(40,dA),(41,dA),(42,dA),(43,dA),(44,dA),(45,dA)]) (fun k=>[]) (fun k=>B.length-k) (fun k=>k≤B.length/\∀i (hi:i<B.length) (hA:i<A.length),i<k->ZQr B[i] A[i]≠0) 0 ?start ?frame0 ?objs0 ?round)
  case start=>exact⟨Nat.zero_le _,fun i _ _ h=>absurd h (Nat.not_lt_zero i)⟩
  case frame0=>exact zFr
  case objs0=>rfl
  case round =>
   rintro k ⟨hk,hno⟩;dsimp only[ZL,z0,z1];by_cases hkl:k<B.length
   ·have hkI:(k:Int)<(B.length:Int):=by omega
    have hkA:k<A.length:=by omega
    by_cases hz:ZQr B[k] A[k]=0
    ·rw[ZSR hkl hkA hz] at ho;subst ho;((repeat' (first|(apply WL.opN;exact yF;dsimp only[ZC,z0,z1])|refine WL.nil ?_|refine ZA fun Kx hK=>?_|(refine hK _ _ ?_;clear hK)|refine WC.region ?_|(apply WL.opN;(focus ((first|(refine ZV ZAO (OpD.t rfl) Zx rfl rfl)|(apply SY.load;exact ZEM;exact OpD.t rfl)|(exact SY.ix (R:=RI) (_gR:=inferInstance) (k:=k) elI (OpD.t rfl) (OpD.t rfl) hkl)|(exact SY.ix (R:=RI) (_gR:=inferInstance) (k:=k) elI (OpD.t rfl) (OpD.t rfl) hkA)|((first|apply SY.move|apply SY.assign|apply SY.lss|apply SY.eql|apply SY.neq|apply SY.and|apply SY.not) <;> (exact oD))|fail);all_goals infer_instance));dsimp only[ZC,z0,z1])|(apply ZB;(exact oD);all_goals (intro h;try exact xD))|refine WC.skip ?_|refine WC.ret ?_|refine WC.block ?_|refine ThenD.r ?_|refine InBlockD.r ?_));all_goals (first|((repeat clear hK);(repeat clear Kx))))
     all_goals try (exfalso;first|contradiction|omega)
     (refine⟨trivial,⟨_,rfl,?_⟩,_,rfl,?_⟩ <;> exact fD)
    ·((repeat' (first|(apply WL.opN;exact yF;dsimp only[ZC,z0,z1])|refine WL.nil ?_|refine ZA fun Kx hK=>?_|(refine hK _ _ ?_;clear hK)|refine WC.region ?_|(apply WL.opN;(focus ((first|(refine ZV ZAO (OpD.t rfl) Zx rfl rfl)|(apply SY.load;exact ZEM;exact OpD.t rfl)|(exact SY.ix (R:=RI) (_gR:=inferInstance) (k:=k) elI (OpD.t rfl) (OpD.t rfl) hkl)|(exact SY.ix (R:=RI) (_gR:=inferInstance) (k:=k) elI (OpD.t rfl) (OpD.t rfl) hkA)|((first|apply SY.move|apply SY.assign|apply SY.lss|apply SY.eql|apply SY.neq|apply SY.and|apply SY.not) <;> (exact oD))|((first|apply SY.add) <;> first|exact oD|omega)|fail);all_goals infer_instance));dsimp only[ZC,z0,z1])|(apply ZB;(exact oD);all_goals (intro h;try exact xD))|refine WC.skip ?_|refine WC.block ?_|refine ThenD.n ?_));all_goals (first|((repeat clear hK);(repeat clear Kx))))
     all_goals try (exfalso;first|contradiction|omega)
     (refine zNx (k+1) ?_;(try dsimp only))
     refine⟨hkl,fun i hi hA hik=>?_⟩;by_cases e:i=k
     ·subst e;exact hz
     ·exact hno i hi hA (by omega)
   ·have hkI:¬ (k:Int)<(B.length:Int):=by omega
    rw[ZQY hAB fun i hi hA=>hno i hi hA (by omega)] at ho;subst ho;((repeat' (first|(apply WL.opN;exact yF;dsimp only[ZC,z0,z1])|refine WL.nil ?_|refine ZA fun Kx hK=>?_|(refine hK _ _ ?_;clear hK)|(refine Kont.skip ?_;clear hK)|refine WC.region ?_|(apply WL.opN;(focus ((first|((first|apply SY.move|apply SY.assign|apply SY.lss|apply SY.eql|apply SY.neq|apply SY.and|apply SY.not) <;> (exact oD))|fail);all_goals infer_instance));dsimp only[ZC,z0,z1])|(apply ZB;(exact oD);all_goals (intro h;try exact xD))|refine WC.ret ?_|refine WC.exit ?_));all_goals (first|((repeat clear hK);(repeat clear Kx))))
    all_goals try (exfalso;first|contradiction|omega)
    (refine⟨trivial,⟨_,rfl,?_⟩,_,rfl,?_⟩ <;> exact fD)
 ·rw[if_neg h4] at ho;subst ho;rw[decide_eq_false h4] at c5;(refine Z9 Tryz.func11 rfl rfl ?_;simp only[Tryz.ntmps11,List.length_cons,List.length_nil,Nat.reduceAdd,Nat.reduceSub,List.replicate_succ,List.replicate_zero,List.cons_append,List.nil_append])
  ((repeat' (first|(apply WL.opN;exact yF;dsimp only[ZC,z0,z1])|refine WL.nil ?_|refine ZA fun Kx hK=>?_|(refine hK _ _ ?_;clear hK)|refine WC.region ?_|(apply WL.opN;(focus ((first|(apply SY.load;exact ZAz;exact OpD.t rfl)|(refine ZV ZAO (OpD.t rfl) Zx rfl rfl)|(apply SY.call (c1) Tryz.call13;exact ArgsD.cons (OpD.t rfl) (ArgsD.nil))|(apply SY.call (c2) Tryz.call13;exact ArgsD.cons (OpD.t rfl) (ArgsD.nil))|(apply SY.call (c4) Tryz.call35;(exact aD))|(apply SY.call (c5) Tryz.call36;(exact aD))|((first|apply SY.move|apply SY.assign|apply SY.lss|apply SY.eql|apply SY.neq|apply SY.and|apply SY.not) <;> (exact oD))|(apply SY.box;(exact oD);(exact hD))|fail);all_goals infer_instance));dsimp only[ZC,z0,z1])|(apply ZG;(exact oD);all_goals (intro h;try exact xD))|(apply ZO;(exact oD);all_goals (intro h;try exact xD))|refine WC.skip ?_|refine WC.ret ?_|refine ThenD.r ?_));all_goals (first|((repeat clear hK);(repeat clear Kx))))
  all_goals try (exfalso;first|contradiction|omega)
  (refine⟨trivial,⟨_,rfl,?_⟩,_,rfl,?_⟩ <;> exact fD)
end
section
open Go.RowKit
def hKL {α:Type} (R:Rel α) [Good R] (M:List (Value × α)):HObj where
 blk:=none
 ok:=fun I w=>∀p∈M,(dS R p.2).rd I w p.1
 weak:=fun h q p hp=>(dS R p.2).weak (h p hp) q
 bound:=fun h p hp=>(dS R p.2).bound (h p hp)
 move:=fun h hg hP _ p hp=>(dS R p.2).grown (h p hp) hg hP
section
variable {P:Program} {ops:Array Oper} {hp:List HObj} {o:Oper} {fr:List Dat} {d d2:Dat} {Q:Z5} {rest:List Oper} {c:Code}
variable {dst:Option Tmp} {ty:TypeId} {ps:String} {af:Array Edge} {g:Option (Nat × Bool)} {t k e:TypeId} {z:Value} {K V α:Type} {kv:K->Value} {ok:K->Prop} {vv:V->Value} {b r:Nat} {m:List (K × V)} {R:Rel α}
theorem ZTW (s:Nat) (ht:fr[s]?=some d) (h:∀v,WL P ops Q rest (fr.set s (dX v)) (ZAq v d::hp)):WL P ops Q rest fr hp:=WL.of fun P0 B w0 w a hh hf=>by
 have hg:(ZAq (a.tmps.getD s undef) d).blk=none:=rfl;have hd:=hf.rd s d ht;refine(h (a.tmps.getD s undef)).on (ZBU (l:=[]) hg hh hd) ⟨hf.defers,by rw[hf.size,List.length_set],fun t' d' hd'=>?_⟩;by_cases htt:s=t'
 ·subst htt;rw[List.getElem?_set] at hd';simp only[if_true] at hd';split at hd'
  ·cases hd';rfl
  ·cases hd'
 ·rw[List.getElem?_set_ne htt] at hd';exact d'.weak (hf.rd t' d' hd') fun k=>(ZAN hg [] k).2
theorem ZOY {gh:HObj} (hg:gh.blk=none) (ho:∀I w,(∀o∈hp,o.ok I w)->gh.ok I w) (h:WL P ops Q rest fr (gh::hp)):WL P ops Q rest fr hp:=WL.of fun _ _ _ _ _ hh hf =>
 h.on (ZBU (l:=[]) hg hh (ho _ _ fun o hm=>hh.ok o hm)) (hf.mono fun d _ hd=>d.weak hd fun k=>(ZAN hg [] k).2)
theorem ZOP {gh:HObj} (hg:gh.blk=none) (ho:∀I w,(∀o∈hp,o.ok I w)->gh.ok I w) (h:WC P Q c fr (gh::hp)):WC P Q c fr hp:=WC.of fun _ _ _ _ _ hh hf =>
 h.on (ZBU (l:=[]) hg hh (ho _ _ fun o hm=>hh.ok o hm)) (hf.mono fun d _ hd=>d.weak hd fun k=>(ZAN hg [] k).2)
theorem ZIO {o:HObj} (h:WL P ops Q rest fr hp):WL P ops Q rest fr (o::hp):=WL.of fun _ _ _ _ _ hh hf=>h.on hh.drop (hf.mono fun d _ hd=>d.weak hd Imm.sub)
theorem ZRC {o:HObj} (h:WC P Q c fr hp):WC P Q c fr (o::hp):=WC.of fun _ _ _ _ _ hh hf=>h.on hh.drop (hf.mono fun d _ hd=>d.weak hd Imm.sub)
section
variable [DecidableEq K] {M:List (K × Value × α)} {_gR:Good R}
theorem ZJc {x y:Operand} {v:K} {p:Value × α} (T:MapT P t k e z) (H:KeyT P k kv ok) (hx:OpD fr x (dX (.map (some b)))) (hm:hM b kv (fun p:Value × α=>p.1) M∈hp) (hk:hKL R (M.map (·.2))∈hp) (hy:OpD fr y d) (hd:IsV d (kv v)) (ho:ok v) (hok:∀p∈M,ok p.1) (hn:(M.map (·.1)).Nodup) (hl:Go.Proofs.YtofkoleingbbpaaGreatDoor.lookM M v=some p) (hp':p∈M.map (·.2)) :
  SY P ops hp ⟨dst,.lookup t x y true,ty,ps,af,g⟩ fr (dT [dS R p.2,dB true]):=ZAG fun {P0 B w0 w a} hh hon=>by
 have h1:a.eval x=_:=hx.get (by simp[Op.operands]) hon;have h2:=hd.is _ _ _ (hy.get (by simp[Op.operands]) hon);have hr:=ZDF T H hok hn ho (hh.ok _ hm) true;rw[hl] at hr;refine⟨_,w,?_,Ext.refl _,[p.1,.bool true],rfl,rfl,fun i e x he hx=>?_⟩
 ·unfold execOp;simp only[h1,h2,Sem.run_bind,hr,Result.andThen_ok,Sem.run_pure];rfl
 ·match i,he,hx with
  | 0,he,hx=>cases he;cases hx;exact hh.ok _ hk p hp'
  | 1,he,hx=>cases he;cases hx;rfl
theorem ZJb {x y:Operand} {v:K} (T:MapT P t k e z) (H:KeyT P k kv ok) (hx:OpD fr x (dX (.map (some b)))) (hm:hM b kv (fun p:Value × α=>p.1) M∈hp) (hy:OpD fr y d) (hd:IsV d (kv v)) (ho:ok v) (hok:∀p∈M,ok p.1) (hn:(M.map (·.1)).Nodup) (hl:Go.Proofs.YtofkoleingbbpaaGreatDoor.lookM M v=none) :
  SY P ops hp ⟨dst,.lookup t x y true,ty,ps,af,g⟩ fr (dT [dX z,dB false]):=by
 have h:=ZOB (P:=P) (ops:=ops) (dst:=dst) (ty:=ty) (ps:=ps) (af:=af) (g:=g) T H hx hm hy hd ho hok hn;rw[hl] at h;exact h
theorem ZOc {x y:Operand} {s:Nat} {v:K} {u:α} (T:MapT P t k e z) (H:KeyT P k kv ok) (hx:∀q,OpD (fr.set s (dX q)) x (dX (.map (some b)))) (hy:∀q,OpD (fr.set s (dX q)) y d) (hd:IsV d (kv v)) (hs:fr[s]?=some (dS R u)) (hc:∀q,OpD (fr.set s (dX q)) (.tmp s) (dX q)) (ho:ok v) (hok:∀p∈M,ok p.1) (hn:(M.map (·.1)).Nodup)
  (h:∀q,WL P ops Q rest (ZC (fr.set s (dX q)) dst (dX undef)) (hM b kv (fun p:Value × α=>p.1) (ZCI M v (q,u))::hKL R ((ZCI M v (q,u)).map (·.2))::hp)) :
  WL P ops Q (⟨dst,.mapUpdate t x y (.tmp s),ty,ps,af,none⟩::rest) fr (hM b kv (fun p:Value × α=>p.1) M::hKL R (M.map (·.2))::hp):=by
 refine ZTW s hs fun q=>?_;refine WL.perm (List.Perm.swap _ _ _) ?_;refine ZBW (u:=(q,u)) T H (hx q) (hy q) hd (hc q) isX ho hok hn ?_;refine ZOY (gh:=hKL R ((ZCI M v (q,u)).map (·.2))) rfl (fun I w hall=>?_) ?_
 ·have h1:(dS R u).rd I w q:=hall (ZAq q (dS R u)) (by simp);have h2:(hKL R (M.map (·.2))).ok I w:=hall _ (by simp);intro p hp;obtain⟨r,hr,rfl⟩:=List.mem_map.1 hp;unfold ZCI at hr;split at hr
  ·obtain⟨r',hr',rfl⟩:=List.mem_map.1 hr;split
   ·exact h1
   ·exact h2 _ (List.mem_map_of_mem hr')
  ·rcases List.mem_append.1 hr with hr|hr
   ·exact h2 _ (List.mem_map_of_mem hr)
   ·rw[List.mem_singleton.1 hr];exact h1
 ·refine WL.perm (List.Perm.swap _ _ _) ?_;refine WL.perm (show List.Perm _ (ZAq q (dS R u)::hKL R (M.map (·.2))::hM b kv (fun p:Value × α=>p.1) (ZCI M v (q,u))::hKL R ((ZCI M v (q,u)).map (·.2))::hp) from ?_) (ZIO (ZIO (h q)));exact((List.perm_append_comm (l₁:=[hM b kv (fun p:Value × α=>p.1) (ZCI M v (q,u)),hKL R ((ZCI M v (q,u)).map (·.2))]) (l₂:=[ZAq q (dS R u),hKL R (M.map (·.2))])).append_right hp)
theorem ZN4 {x:Operand} {seen:Array Nat} {j:Nat} (hx:OpD fr x (dX (.pointer (some ⟨r,0,none⟩)))) (hi:hIt b r M.length (seen.push j)∈hp) (hm:hM b kv (fun p:Value × α=>p.1) M∈hp) (hk:hKL R (M.map (·.2))∈hp) (hj:j<M.length) :
  SY P ops hp ⟨dst,.entry x,ty,ps,af,g⟩ fr (dT [dX (kv M[j].1),dS R M[j].2.2]):=SY.mk fun hh hon K Q hkk =>
 (ZN5 (P:=P) (ops:=ops) (dst:=dst) (ty:=ty) (ps:=ps) (af:=af) (g:=g) (fr:=fr) hx hi hm hj).out hh hon K Q fun v w' hxt ⟨us,h3,h4,h5⟩=>hkk v w' hxt ⟨us,h3,h4,fun i e x he hx=>by
  match i,he,hx with
  | 0,he,hx=>exact h5 0 e x he hx
  | 1,he,hx =>
   cases he;have h6:(dX M[j].2.1).rd _ w' x:=h5 1 (dX M[j].2.1) x rfl hx;have h7:=(hh.ext hxt).ok _ hk M[j].2 (List.mem_map_of_mem (List.getElem_mem hj));have h8:x=M[j].2.1:=h6;rw[h8];exact h7⟩
end
end
end
end Go.Proofs.YtofkoleingbbpaaGreatDoor
