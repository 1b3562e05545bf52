/- Part 15 of the proof. -/
import Derived.Test.YtofkoleingbbpaaGreatDoorZa14
set_option linter.all false
set_option maxRecDepth 100000
set_option maxHeartbeats 64000000
namespace Go.Proofs.YtofkoleingbbpaaGreatDoor
section
open Go.RowKit

def ZUe:Option Vx->Vx->Prop
 | none,_=>False
 | some u,v=>0≤ZAW u v
instance (p:Option Vx) (v:Vx):Decidable (ZUe p v):=by cases p <;> (unfold ZUe;infer_instance)
def ZF5:Option Vx->List Vx->List Int->Int
 | p,v::vs,a::A=>if ZDL v=false then 2 else if ZUe p v then 14 else if a<1\/256≤a then 2 else ZF5 (some v) vs A
 | _,_,_=>0
def ZAU (vs:List Vx) (A:List Int):Int:=if 4096<vs.length then 5 else if A.length≠vs.length then 15 else ZF5 none vs A
def ZER (vs:List Vx) (k:Nat):Option Vx:=if k=0 then none else vs[k-1]?
theorem ZP5 {vs:List Vx} {k:Nat} (h:k<vs.length):ZER vs (k+1)=some vs[k]:=by
 unfold ZER;rw[if_neg (by omega),Nat.add_sub_cancel,List.getElem?_eq_getElem h]
theorem ZFV {vs:List Vx} {A:List Int} {k:Nat} (h:k<vs.length) (h':k<A.length):ZF5 (ZER vs k) (vs.drop k) (A.drop k)=if ZDL vs[k]=false then 2 else if ZUe (ZER vs k) vs[k] then 14 else if A[k]<1\/256≤A[k] then 2 else ZF5 (ZER vs (k+1)) (vs.drop (k+1)) (A.drop (k+1)):=by
 rw[List.drop_eq_getElem_cons h,List.drop_eq_getElem_cons h',ZP5 h];rfl
theorem ZLe {vs:List Vx} {k:Nat} {v:Vx} (hk1:k-1<vs.length) (hb:¬ (k≠0/\0≤ZAW vs[k-1] v)):¬ ZUe (ZER vs k) v:=fun h=>by
 unfold ZER at h;by_cases hk0:k=0
 ·rw[if_pos hk0] at h;exact h
 ·rw[if_neg hk0,List.getElem?_eq_getElem hk1] at h;exact hb ⟨hk0,h⟩
theorem ZFW (vs:List Vx) (A:List Int):Fn Tryz.prog 13 [dS Lab (vs,A)] (dI (ZAU vs A)):=by
 refine zE Tryz.func13 61 ?_;by_cases h1:4096<vs.length
 ·have e:ZAU vs A=5:=by unfold ZAU;rw[if_pos h1]
  rw[e];((repeat' (first|refine zS ?_|refine ZA fun Kx hK=>?_|(refine hK _ _ ?_;clear hK)|((first|apply ZF|apply WD.op);(focus (first|exact wN|(apply ZVt;exact wY;((first|(refine ZW ZAp (ZVh rfl) ZAA rfl rfl)|exact yG|fail);all_goals infer_instance))));dsimp only[ZC,z0,z1])|(apply ZB;exact oD;all_goals (intro h;try exact xD))|refine ZVs ?_|refine ZVp ?_|refine ZVz ?_|refine ZWC ?_));all_goals ((repeat clear hK);repeat clear Kx))
  all_goals try exact xO
  (refine⟨trivial,_,rfl,?_⟩;exact fD)
 by_cases h2:A.length≠vs.length
 ·have e:ZAU vs A=15:=by unfold ZAU;rw[if_neg h1,if_pos h2]
  rw[e];((repeat' (first|refine zS ?_|refine ZA fun Kx hK=>?_|(refine hK _ _ ?_;clear hK)|((first|apply ZF|apply WD.op);(focus (first|exact wN|(apply ZVt;exact wY;((first|(refine ZW ZAp (ZVh rfl) ZAA rfl rfl)|(apply ZVy;exact ZHd;exact ZVh rfl)|exact yG|fail);all_goals infer_instance))));dsimp only[ZC,z0,z1])|(apply ZB;exact oD;all_goals (intro h;try exact xD))|(apply ZG;exact oD;all_goals (intro h;try exact xD))|refine ZVs ?_|refine ZVp ?_|refine ZVz ?_|refine ZWC ?_));all_goals ((repeat clear hK);repeat clear Kx))
  all_goals try exact xO
  (refine⟨trivial,_,rfl,?_⟩;exact fD)
 have e:ZAU vs A=ZF5 none vs A:=by unfold ZAU;rw[if_neg h1,if_neg h2]
 rw[e];have hA:A.length=vs.length:=Classical.byContradiction h2;(repeat' (first|refine zS ?_|refine ZA fun Kx hK=>?_|(refine hK _ _ ?_;clear hK)|((first|apply ZF|apply WD.op);(focus (first|exact wN|(apply ZVt;exact wY;((first|(refine ZW ZAp (ZVh rfl) ZAA rfl rfl)|(apply ZVy;exact ZHd;exact ZVh rfl)|((first|apply ZVo|apply ZVn|apply ZVq|apply ZV6|apply ZWA|apply ZVv) <;> exact oD)|(apply ZVu;exact oD;exact nD;exact uD)|(apply ZV3;exact oD;exact hD)|fail);all_goals infer_instance))));dsimp only[ZC,z0,z1])|(apply ZB;exact oD;all_goals (intro h;try exact xD))|(apply ZG;exact oD;all_goals (intro h;try exact xD))|refine ZVr ?_|refine ZVp ?_))
 all_goals try exact xO
 (refine ZV4 (X:=Nat) (fun k=>[(21,dI (k:Int)),(2,dA),(3,dA),(4,dA),(22,dA),(23,dA),(24,dA),(25,dA),(26,dA),(27,dA),(28,dA),(29,dA),(30,dA),(31,dA),(32,dA),(33,dA),(34,dA),(35,dA),(36,dA),(37,dA),(38,dA),(39,dA),(40,dA),(41,dA),(42,dA),(43,dA),(44,dA),(45,dA),(46,dA),(47,dA),(48,dA),(49,dA),(50,dA),(51,dA),(52,dA),(53,dA),(54,dA),(55,dA),(56,dA),(57,dA),(58,dA),(59,dA),(60,dA)]) (fun k=>[]) (fun k=>vs.length-k) (fun k=>k≤vs.length/\ZF5 none vs A=ZF5 (ZER vs k) (vs.drop k) (A.drop k)) 0 ?start ?frame0 ?objs0 ?round)
 case start=>exact⟨Nat.zero_le _,rfl⟩
 case frame0=>exact zFr
 case objs0=>rfl
 case round =>
  rintro k ⟨g1,g2⟩;dsimp only[ZH,z0,z1];by_cases hk:k<vs.length
  ·have hkA:k<A.length:=by omega
   rw[ZFV hk hkA] at g2;have c1:=ZNF [vs[k]];by_cases hr:ZDL vs[k]=false
   ·rw[if_pos hr] at g2;have hne:ZAC [vs[k]]≠0:=fun q=>by rw[ZO5.1 q] at hr;cases hr
    ((repeat' (first|refine zS ?_|refine ZA fun Kx hK=>?_|(refine hK _ _ ?_;clear hK)|(apply ZWF;(first|exact tzV|exact tzC);(first|exact Z0 rfl|exact ZAw|exact shape_C0 rfl);(intro _;dsimp only[ZC,z0,z1]))|(apply ZR;exact tD;rfl;exact oD;exact hD;dsimp only[ZC,z0,z1])|((first|apply ZF|apply WD.op);(focus (first|exact wN|(apply ZVt;exact wY;((first|(apply ZVm (c1) Tryz.call39;exact aD)|exact yG|(apply ZWg;exact eD;((try simp only[List.map_cons,List.map_nil]);(repeat (first|exact Zr|(apply Zp;(first|exact ZVh rfl|exact ZV5|exact ZWE|exact ZWD rfl (by first|exact ZN|exact ZJ (by decide))|exact⟨ZN⟩|exact⟨ZJ (by decide)⟩)))));rfl;rfl;decide;(intro _;exact ZBA);(exact(by simp)))|fail);all_goals infer_instance))));dsimp only[ZC,z0,z1])|(apply ZB;exact oD;all_goals (intro h;try exact xD))|(apply ZG;exact oD;all_goals (intro h;try exact xD))|refine ZVr ?_|refine ZVs ?_|refine ZVp ?_|refine ZVz ?_|refine ZWC ?_));all_goals ((repeat clear hK);repeat clear Kx))
    all_goals try exact xO
    (refine⟨trivial,_,rfl,?_⟩;refine ZWH ?_)
    rw[g2]
   ·rw[if_neg hr] at g2;rw[ZO5.2 (by simpa using hr)] at c1;have hk1:k-1<vs.length:=by omega
    have c2:=ZPq vs[k-1] vs[k];have hpv:k≠0->ZER vs k=some vs[k-1]:=fun h=>by unfold ZER;rw[if_neg h,List.getElem?_eq_getElem hk1]
    by_cases hb:k≠0/\0≤ZAW vs[k-1] vs[k]
    ·have hk0:=hb.1;have hb2:=hb.2;rw[if_pos (by rw[hpv hb.1];exact hb.2)] at g2;((repeat' (first|refine zS ?_|refine WD.nil ?_|refine ZA fun Kx hK=>?_|(refine hK _ _ ?_;clear hK)|(apply ZWB;kernel_rfl;kernel_rfl)|(apply ZWF;(first|exact tzV|exact tzC);(first|exact Z0 rfl|exact ZAw|exact shape_C0 rfl);(intro _;dsimp only[ZC,z0,z1]))|(apply ZR;exact tD;rfl;exact oD;exact hD;dsimp only[ZC,z0,z1])|((first|apply ZF|apply WD.op);(focus (first|exact wN|(apply ZVt;exact wY;((first|(apply ZVm (c1) Tryz.call39;exact aD)|(apply ZVm (c2) Tryz.call40;exact aD)|(refine ZW ZAp (ZVh rfl) ZAA rfl rfl)|(refine Zy (R:=RV) (_gR:=inferInstance) (k:=k) elV (ZVh rfl) (ZVh rfl) hk)|(refine Zy (R:=RV) (_gR:=inferInstance) (k:=k-1) elV (ZVh rfl) (ZWD rfl (ZCO (by omega))) hk1)|exact yG|(apply ZWg;exact eD;((try simp only[List.map_cons,List.map_nil]);(repeat (first|exact Zr|(apply Zp;(first|exact ZVh rfl|exact ZV5|exact ZWE|exact ZWD rfl (by first|exact ZN|exact ZJ (by decide))|exact⟨ZN⟩|exact⟨ZJ (by decide)⟩)))));rfl;rfl;decide;(intro _;exact ZBA);(exact(by simp)))|fail);all_goals infer_instance))));dsimp only[ZC,z0,z1])|((first|refine ZM rfl rfl rfl (fun h=>?_) (fun h=>?_)|refine ZL rfl rfl rfl (fun h=>?_) (fun h=>?_)|refine ZK rfl rfl rfl (fun h=>?_) (fun h=>?_)|refine Za rfl rfl rfl (fun h=>?_) (fun h=>?_)|refine ZX rfl rfl rfl (fun h=>?_) (fun h=>?_)|refine ZV rfl rfl rfl (fun h=>?_) (fun h=>?_)) <;> (first|(exfalso;first|omega|contradiction)|(dsimp only[z0,z1])))|(apply ZB;exact oD;all_goals (intro h;try exact xD))|(apply ZG;exact oD;all_goals (intro h;try exact xD))|refine ZVr ?_|refine ZVs ?_|refine ZVp ?_|refine ZVz ?_|refine ZWC ?_));all_goals ((repeat clear hK);repeat clear Kx))
     all_goals try exact xO
     (refine⟨trivial,_,rfl,?_⟩;refine ZWH ?_)
     rw[g2]
    ·rw[if_neg (ZLe hk1 hb)] at g2;have hc:(¬ k=0/\¬ 0≤ZAW vs[k-1] vs[k])\/k=0:=by
      by_cases hk0:k=0
      ·exact .inr hk0
      ·exact .inl ⟨hk0,fun h=>hb ⟨hk0,h⟩⟩
     by_cases ha:A[k]<1\/256≤A[k]
     ·rw[if_pos ha] at g2;rcases hc with ⟨hk0,hb3⟩|hk0 <;> rcases ha with ha1|ha2;all_goals
       ((repeat' (first|refine zS ?_|refine WD.nil ?_|refine ZA fun Kx hK=>?_|(refine hK _ _ ?_;clear hK)|(apply ZWB;kernel_rfl;kernel_rfl)|(apply ZWF;(first|exact tzV|exact tzC);(first|exact Z0 rfl|exact ZAw|exact shape_C0 rfl);(intro _;dsimp only[ZC,z0,z1]))|(apply ZR;exact tD;rfl;exact oD;exact hD;dsimp only[ZC,z0,z1])|((first|apply ZF|apply WD.op);(focus (first|exact wN|(apply ZVt;exact wY;((first|(apply ZVm (c1) Tryz.call39;exact aD)|(apply ZVm (c2) Tryz.call40;exact aD)|(refine ZW ZAp (ZVh rfl) ZAA rfl rfl)|(apply ZVy;exact ZHd;exact ZVh rfl)|(refine Zy (R:=RV) (_gR:=inferInstance) (k:=k) elV (ZVh rfl) (ZVh rfl) hk)|(refine Zy (R:=RV) (_gR:=inferInstance) (k:=k-1) elV (ZVh rfl) (ZWD rfl (ZCO (by omega))) hk1)|(refine ZV8 (R:=RI) (_gR:=inferInstance) elI (ZVh rfl) (ZVh rfl) hkA)|exact yG|(apply ZWg;exact eD;((try simp only[List.map_cons,List.map_nil]);(repeat (first|exact Zr|(apply Zp;(first|exact ZVh rfl|exact ZV5|exact ZWE|exact ZWD rfl (by first|exact ZN|exact ZJ (by decide))|exact⟨ZN⟩|exact⟨ZJ (by decide)⟩)))));rfl;rfl;decide;(intro _;exact ZBA);(exact(by simp)))|fail);all_goals infer_instance))));dsimp only[ZC,z0,z1])|((first|refine ZM rfl rfl rfl (fun h=>?_) (fun h=>?_)|refine ZL rfl rfl rfl (fun h=>?_) (fun h=>?_)|refine ZK rfl rfl rfl (fun h=>?_) (fun h=>?_)|refine Za rfl rfl rfl (fun h=>?_) (fun h=>?_)|refine ZX rfl rfl rfl (fun h=>?_) (fun h=>?_)|refine ZV rfl rfl rfl (fun h=>?_) (fun h=>?_)) <;> (first|(exfalso;first|omega|contradiction)|(dsimp only[z0,z1])))|(apply Zf;exact oD;(with_reducible rfl))|(apply ZQ;exact oD;(with_reducible rfl))|(apply ZB;exact oD;all_goals (intro h;try exact xD))|(apply ZG;exact oD;all_goals (intro h;try exact xD))|refine ZVr ?_|refine ZVs ?_|refine ZVp ?_|refine ZVz ?_|refine ZWC ?_));all_goals ((repeat clear hK);repeat clear Kx))
       all_goals try exact xO
       (refine⟨trivial,_,rfl,?_⟩;refine ZWH ?_)
       rw[g2]
     ·rw[if_neg ha] at g2;rcases hc with ⟨hk0,hb3⟩|hk0;all_goals
       ((repeat' (first|refine zS ?_|refine WD.nil ?_|refine ZA fun Kx hK=>?_|(refine hK _ _ ?_;clear hK)|(apply ZWB;kernel_rfl;kernel_rfl)|(apply ZWF;(first|exact tzV|exact tzC);(first|exact Z0 rfl|exact ZAw|exact shape_C0 rfl);(intro _;dsimp only[ZC,z0,z1]))|(apply ZR;exact tD;rfl;exact oD;exact hD;dsimp only[ZC,z0,z1])|((first|apply ZF|apply WD.op);(focus (first|exact wN|(apply ZVt;exact wY;((first|(apply ZVm (c1) Tryz.call39;exact aD)|(apply ZVm (c2) Tryz.call40;exact aD)|(refine ZW ZAp (ZVh rfl) ZAA rfl rfl)|(apply ZVy;exact ZHd;exact ZVh rfl)|(refine Zy (R:=RV) (_gR:=inferInstance) (k:=k) elV (ZVh rfl) (ZVh rfl) hk)|(refine Zy (R:=RV) (_gR:=inferInstance) (k:=k-1) elV (ZVh rfl) (ZWD rfl (ZCO (by omega))) hk1)|(refine ZV8 (R:=RI) (_gR:=inferInstance) elI (ZVh rfl) (ZVh rfl) hkA)|exact yG|(apply ZWg;exact eD;((try simp only[List.map_cons,List.map_nil]);(repeat (first|exact Zr|(apply Zp;(first|exact ZVh rfl|exact ZV5|exact ZWE|exact ZWD rfl (by first|exact ZN|exact ZJ (by decide))|exact⟨ZN⟩|exact⟨ZJ (by decide)⟩)))));rfl;rfl;decide;(intro _;exact ZBA);(exact(by simp)))|fail);all_goals infer_instance))));dsimp only[ZC,z0,z1])|((first|refine ZM rfl rfl rfl (fun h=>?_) (fun h=>?_)|refine ZL rfl rfl rfl (fun h=>?_) (fun h=>?_)|refine ZK rfl rfl rfl (fun h=>?_) (fun h=>?_)|refine Za rfl rfl rfl (fun h=>?_) (fun h=>?_)|refine ZX rfl rfl rfl (fun h=>?_) (fun h=>?_)|refine ZV rfl rfl rfl (fun h=>?_) (fun h=>?_)) <;> (first|(exfalso;first|omega|contradiction)|(dsimp only[z0,z1])))|(apply ZQ;exact oD;(with_reducible rfl))|(apply ZB;exact oD;all_goals (intro h;try exact xD))|(apply ZG;exact oD;all_goals (intro h;try exact xD))|refine ZVr ?_|refine ZVp ?_|refine ZVx ?_));all_goals ((repeat clear hK);repeat clear Kx))
       all_goals try exact xO
       (refine zNx (k+1) ?_;(try dsimp only))
       exact⟨by omega,g2⟩
  ·((repeat' (first|refine zS ?_|refine ZA fun Kx hK=>?_|(refine hK _ _ ?_;clear hK)|(refine ZV0 ?_;clear hK)|((first|apply ZF|apply WD.op);(focus (first|exact wN|(apply ZVt;exact wY;((first|exact yG|fail);all_goals infer_instance))));dsimp only[ZC,z0,z1])|(apply ZB;exact oD;all_goals (intro h;try exact xD))|refine ZVs ?_|refine ZV1 ?_));all_goals ((repeat clear hK);repeat clear Kx))
   all_goals try exact xO
   (refine⟨trivial,_,rfl,?_⟩;refine ZWH ?_)
   rw[g2,List.drop_of_length_le (by omega)];unfold ZF5;rfl
end
section
open Go.RowKit

theorem ZHt:∀ {p:Option Vx} {vs:List Vx} {A:List Int},A.length=vs.length->ZF5 p vs A=0->Asc vs/\(∀u∈p,∀v∈vs,ZAW u v<0)/\(∀v∈vs,ZDL v=true)/\∀a∈A,1≤a/\a<256
 | _,[],[],_,_=>⟨by simp[Asc],by simp,by simp,by simp⟩
 | _,[],_::_,h,_=>by simp at h
 | _,_::_,[],h,_=>by simp at h
 | p,v::vs,a::A,h,h0=>by
  unfold ZF5 at h0;by_cases h1:ZDL v=false
  ·rw[if_pos h1] at h0;cases h0
  rw[if_neg h1] at h0;by_cases h2:ZUe p v
  ·rw[if_pos h2] at h0;cases h0
  rw[if_neg h2] at h0;by_cases h3:a<1\/256≤a
  ·rw[if_pos h3] at h0;cases h0
  rw[if_neg h3] at h0;obtain⟨k1,k2,k3,k4⟩:=ZHt (by simpa using h) h0;have hv:=k2 v rfl;refine⟨List.pairwise_cons.2 ⟨hv,k1⟩,fun u hu w hw=>?_,fun w hw=>?_,fun b hb=>?_⟩
  ·have huv:ZAW u v<0:=by
    cases p with
    | none=>cases hu
    | some u' =>
     cases hu;have:¬ 0≤ZAW u v:=h2;omega
   rcases List.mem_cons.1 hw with rfl|hw
   ·exact huv
   ·exact ZBD huv (hv w hw)
  ·rcases List.mem_cons.1 hw with rfl|hw
   ·simpa using h1
   ·exact k3 w hw
  ·rcases List.mem_cons.1 hb with rfl|hb
   ·omega
   ·exact k4 b hb
theorem ZAm {vs:List Vx} {A:List Int} (h:ZAU vs A=0):vs.length≤4096/\A.length=vs.length/\Asc vs/\(∀v∈vs,ZDL v=true)/\∀a∈A,1≤a/\a<256:=by
 unfold ZAU at h;by_cases h1:4096<vs.length
 ·rw[if_pos h1] at h;cases h
 rw[if_neg h1] at h;by_cases h2:A.length≠vs.length
 ·rw[if_pos h2] at h;cases h
 rw[if_neg h2] at h;have hA:A.length=vs.length:=Classical.byContradiction h2;obtain⟨k1,_,k3,k4⟩:=ZHt hA h;exact⟨by omega,hA,k1,k3,k4⟩
def ZS6 (l:Cx) (f:Vx->Int):Cx:=l.filter fun s=>decide (orL f s=((2 ^ s.length-1:Nat):Int))
def ZK9 (l:Cx) (vs:List Vx) (A:List Int):Cx × Int :=
 if ZBC l≠0 then([],ZBC l) else if ZAU vs A≠0 then([],ZAU vs A) else if ZGJ l (Zc vs A)=false then([],6) else if ZUk A=false then([],3) else(ZS6 l (Zc vs A),0)
theorem ZKe {l:Cx} {f:Vx->Int} {k:Nat} (h:k<l.length):ZS6 (l.take (k+1)) f=ZS6 (l.take k) f++(if orL f l[k]=((2 ^ l[k].length-1:Nat):Int) then[l[k]] else[]):=by
 unfold ZS6;rw[Ze h,List.filter_append];congr 1;by_cases hp:orL f l[k]=((2 ^ l[k].length-1:Nat):Int)
 ·rw[if_pos hp,List.filter_cons_of_pos (by simpa using hp)];rfl
 ·rw[if_neg hp,List.filter_cons_of_neg (by simpa using hp)];rfl
theorem ZKd (l:Cx) (vs:List Vx) (A:List Int):Fn Tryz.prog 15 [dS Cpx l,dS Lab (vs,A)] (dT [dS Zh (ZK9 l vs A).1,dI (ZK9 l vs A).2]):=by
 have c1:=ZCg l;have c2:=ZFW vs A;refine zF Tryz.func15 53 ?_;(first|refine ZP (t:=0) rfl ZEG fun hl0=>?_|refine ZP (t:=0) rfl ZDu fun hl0=>?_|refine ZP (t:=0) rfl ZJS fun hl0=>?_);simp only[maxLen] at hl0
 by_cases h1:ZBC l≠0
 ·have e:ZK9 l vs A=([],ZBC l):=by unfold ZK9;rw[if_pos h1]
  rw[e];((repeat' (first|refine zS ?_|refine ZA fun Kx hK=>?_|(refine hK _ _ ?_;clear hK)|(apply zV;(focus ((first|(apply ZVm (c1) Tryz.call43;exact aD)|exact yG);all_goals infer_instance));exact zQ)|(apply ZG;exact oD;all_goals (intro h;try exact xD))|refine ZVs ?_|refine ZVz ?_));all_goals ((repeat clear hK);repeat clear Kx))
  all_goals try exact xO
  (refine⟨trivial,⟨_,rfl,?_⟩,_,rfl,?_⟩ <;> exact fD)
 by_cases h2:ZAU vs A≠0
 ·have e:ZK9 l vs A=([],ZAU vs A):=by unfold ZK9;rw[if_neg h1,if_pos h2]
  have h1':ZBC l=0:=Classical.byContradiction h1;rw[e];rw[h1'] at c1;((repeat' (first|refine zS ?_|refine ZA fun Kx hK=>?_|(refine hK _ _ ?_;clear hK)|(apply zV;(focus ((first|(apply ZVm (c1) Tryz.call43;exact aD)|(apply ZVm (c2) Tryz.call13;exact aD)|(apply ZVy;exact ZAz;exact ZVh rfl)|exact yG);all_goals infer_instance));exact zQ)|(apply ZG;exact oD;all_goals (intro h;try exact xD))|refine ZVr ?_|refine ZVs ?_|refine ZVz ?_));all_goals ((repeat clear hK);repeat clear Kx))
  all_goals try exact xO
  (refine⟨trivial,⟨_,rfl,?_⟩,_,rfl,?_⟩ <;> exact fD)
 have h1':ZBC l=0:=Classical.byContradiction h1;have h2':ZAU vs A=0:=Classical.byContradiction h2;rw[h1'] at c1;rw[h2'] at c2;obtain⟨g1,g2,g3,g4,g5⟩:=ZAm h2';have c3:=ZGK l vs A g3 g2 (by omega);have c4:=ZMs vs A fun m hm=>by have:=g5 m hm;omega
 cases h3:ZGJ l (Zc vs A) with
 | false =>
  have e:ZK9 l vs A=([],6):=by unfold ZK9;rw[if_neg h1,if_neg h2,if_pos h3]
  rw[e];rw[h3] at c3;((repeat' (first|refine zS ?_|refine ZA fun Kx hK=>?_|(refine hK _ _ ?_;clear hK)|(apply zV;(focus ((first|(apply ZVm (c1) Tryz.call43;exact aD)|(apply ZVm (c2) Tryz.call13;exact aD)|(apply ZVm (c3) Tryz.call44;exact aD)|(apply ZVy;exact ZAz;exact ZVh rfl)|exact yG);all_goals infer_instance));exact zQ)|(apply ZG;exact oD;all_goals (intro h;try exact xD))|(apply ZO;exact oD;all_goals (intro h;try exact xD))|refine ZVr ?_|refine ZVs ?_|refine ZVp ?_|refine ZVz ?_|refine ZWC ?_));all_goals ((repeat clear hK);repeat clear Kx))
  all_goals try exact xO
  (refine⟨trivial,⟨_,rfl,?_⟩,_,rfl,?_⟩ <;> exact fD)
 | true =>
  rw[h3] at c3;cases h4:ZUk A with
  | false =>
   have e:ZK9 l vs A=([],3):=by unfold ZK9;rw[if_neg h1,if_neg h2,if_neg (by simp[h3]),if_pos h4]
   rw[e];rw[h4] at c4;((repeat' (first|refine zS ?_|refine ZA fun Kx hK=>?_|(refine hK _ _ ?_;clear hK)|(apply zV;(focus ((first|(apply ZVm (c1) Tryz.call43;exact aD)|(apply ZVm (c2) Tryz.call13;exact aD)|(apply ZVm (c3) Tryz.call44;exact aD)|(apply ZVm (c4) Tryz.call35;exact aD)|(apply ZVy;exact ZAz;exact ZVh rfl)|exact yG);all_goals infer_instance));exact zQ)|(apply ZG;exact oD;all_goals (intro h;try exact xD))|(apply ZO;exact oD;all_goals (intro h;try exact xD))|refine ZVr ?_|refine ZVs ?_|refine ZVp ?_|refine ZVz ?_|refine ZWC ?_));all_goals ((repeat clear hK);repeat clear Kx))
   all_goals try exact xO
   (refine⟨trivial,⟨_,rfl,?_⟩,_,rfl,?_⟩ <;> exact fD)
  | true =>
   have e:ZK9 l vs A=(ZS6 l (Zc vs A),0):=by unfold ZK9;rw[if_neg h1,if_neg h2,if_neg (by simp[h3]),if_neg (by simp[h4])]
   rw[e];rw[h4] at c4;have hG:=ZAX.1 h1';have hl4:l.length≤4096:=hG.1;(repeat' (first|refine zS ?_|refine ZA fun Kx hK=>?_|(refine hK _ _ ?_;clear hK)|(apply zV;(focus ((first|(apply ZVm (c1) Tryz.call43;exact aD)|(apply ZVm (c2) Tryz.call13;exact aD)|(apply ZVm (c3) Tryz.call44;exact aD)|(apply ZVm (c4) Tryz.call35;exact aD)|(apply ZVy;exact ZAz;exact ZVh rfl)|((first|apply ZVo|apply ZVn|apply ZVq|apply ZV7|apply ZVv|apply ZVw) <;> exact oD)|(apply ZVu;exact oD;exact nD;exact uD)|(apply ZDM ZNz;exact ZVh rfl)|(apply ZV3;exact oD;exact hD));all_goals infer_instance));exact zQ)|(apply ZG;exact oD;all_goals (intro h;try exact xD))|(apply ZO;exact oD;all_goals (intro h;try exact xD))|refine ZVr ?_|refine ZVp ?_))
   all_goals try exact xO
   refine Zn 22 ZI ?_;(refine ZV4 (X:=Nat × Value) (fun x=>[(8,dX x.2),(33,dI (x.1:Int)),(10,dA),(34,dA),(35,dA),(36,dA),(37,dA),(38,dA),(39,dA),(40,dA),(41,dA),(42,dA),(43,dA),(44,dA),(45,dA),(46,dA),(47,dA),(48,dA),(49,dA),(50,dA),(51,dA)]) (fun x=>[Zk x.2 22 ZI (ZS6 (l.take x.1) (Zc vs A))]) (fun x=>l.length-x.1) (fun x=>x.1≤l.length) (0,.slice none 0 0) ?start ?frame0 ?objs0 ?round)
   case start=>simp
   case frame0=>exact zFr
   case objs0=>rfl
   case round =>
    rintro⟨k,u⟩ q1;simp only at q1;dsimp only[ZH,z0,z1];have hol:(ZS6 (l.take k) (Zc vs A)).length≤1000000:=by
     unfold ZS6;have:=List.length_filter_le (fun s:List Vx=>decide (orL (Zc vs A) s=((2 ^ s.length-1:Nat):Int))) (l.take k);rw[List.length_take] at this;omega
    by_cases hk:k<l.length
    ·have h8:l[k].length≤8:=hG.short _ (List.getElem_mem hk);have hshl:=ZRu ⟨l[k].length,by omega⟩;simp only at hshl;have hpp:0<2 ^ l[k].length:=Nat.two_pow_pos _;have hp9:2 ^ l[k].length≤2 ^ 8:=Nat.pow_le_pow_right (by decide) h8;by_cases hrb:orL (Zc vs A) l[k]=((2 ^ l[k].length-1:Nat):Int)
     ·((repeat' (first|refine zS ?_|refine WD.nil ?_|refine ZA fun Kx hK=>?_|(refine hK _ _ ?_;clear hK)|(apply ZWB;kernel_rfl;kernel_rfl)|((first|apply Zq|apply Zl);exact eD;exact ZVh rfl;exact oD;(intro _;exact hD);(exact(by simp));(exact(by simp));(first|exact⟨by decide,by decide⟩|skip);decide;exact lD;(intro _;dsimp only[ZC,z0,z1]);all_goals (try infer_instance))|((first|apply ZVi|apply ZVl);(focus ((first|(apply ZVy;exact ZAz;exact ZVh rfl)|(apply ZVm (ZGM vs A g3 g2 (by omega)) Tryz.call46;exact aD)|(apply ZVm (ZFq l[k] (Zc vs A)) Tryz.call45;exact aD)|(exact ZOL hshl (by omega) ZV5 (ZVh rfl))|(refine ZOO (c:=((2 ^ l[k].length-1:Nat):Int)) (by omega) (by omega) (ZVh rfl) ZV5)|(apply ZVm (ZIZ l[k] (by omega)) Tryz.call47;exact aD)|exact yG|fail);all_goals infer_instance));dsimp only[ZC,z0,z1])|(apply ZB;exact oD;all_goals (intro h;try exact xD))|refine ZVr ?_|refine ZVp ?_|refine ZVx ?_));all_goals ((repeat clear hK);repeat clear Kx))
      all_goals try exact xO
      (refine⟨(k+1,_) , ?_,by first|omega|(simp only;omega),by((try simp only);  (rw[ZKe hk,if_pos hrb])),?_⟩;rotate_left;((try dsimp only[ZH,z0,z1]);repeat (first|exact LeF.nil|refine ZD (k:=?_)));(try dsimp only))
      omega
     ·((repeat' (first|refine zS ?_|refine WD.nil ?_|refine ZA fun Kx hK=>?_|(refine hK _ _ ?_;clear hK)|(apply ZWB;kernel_rfl;kernel_rfl)|((first|apply ZVi|apply ZVl);(focus ((first|(apply ZVy;exact ZAz;exact ZVh rfl)|(apply ZVm (ZGM vs A g3 g2 (by omega)) Tryz.call46;exact aD)|(apply ZVm (ZFq l[k] (Zc vs A)) Tryz.call45;exact aD)|(exact ZOL hshl (by omega) ZV5 (ZVh rfl))|(refine ZOO (c:=((2 ^ l[k].length-1:Nat):Int)) (by omega) (by omega) (ZVh rfl) ZV5)|exact yG|fail);all_goals infer_instance));dsimp only[ZC,z0,z1])|(apply ZB;exact oD;all_goals (intro h;try exact xD))|refine ZVr ?_|refine ZVp ?_|refine ZVx ?_));all_goals ((repeat clear hK);repeat clear Kx))
      all_goals try exact xO
      (refine⟨(k+1,_) , ?_,by first|omega|(simp only;omega),by((try simp only);  (rw[ZKe hk,if_neg hrb,List.append_nil])),?_⟩;rotate_left;((try dsimp only[ZH,z0,z1]);repeat (first|exact LeF.nil|refine ZD (k:=?_)));(try dsimp only))
      omega
    ·have hle:l.take k=l:=List.take_of_length_le (by omega);rw[hle];((repeat' (first|refine zS ?_|refine ZA fun Kx hK=>?_|(refine hK _ _ ?_;clear hK)|(refine ZV0 ?_;clear hK)|(apply zV;exact yG;exact zQ)|(apply ZB;exact oD;all_goals (intro h;try exact xD))|refine ZVs ?_|refine ZV1 ?_));all_goals ((repeat clear hK);repeat clear Kx))
     all_goals try exact xO
     (refine⟨trivial,⟨_,rfl,?_⟩,_,rfl,?_⟩ <;> exact fD)
end
section
open Go.RowKit

def ZQZ (A B:List Int):Bool:=(List.range B.length).all fun i=>!decide (ZQt (B.getD i 0) (A.getD i 0)=0)
def ZKt (vs:List Vx) (A:List Int) (ws:List Vx) (B:List Int):Bool × Int :=
 if ZAU vs A≠0 then(false,ZAU vs A) else if ZAU ws B≠0 then(false,ZAU ws B) else if ZUk B=false then(false,3) else if vs=ws then(ZQZ A B,0) else(false,0)
theorem ZSS {A B:List Int} {i:Nat} (hi:i<B.length) (hA:i<A.length) (h:ZQt B[i] A[i]=0):ZQZ A B=false:=by
 unfold ZQZ;rw[List.all_eq_false];refine⟨i,List.mem_range.2 hi,?_⟩;simp[List.getD_eq_getElem?_getD,List.getElem?_eq_getElem hi,List.getElem?_eq_getElem hA,h]
theorem ZQa {A B:List Int} (hl:A.length=B.length) (h:∀i (hi:i<B.length) (hA:i<A.length),ZQt B[i] A[i]≠0):ZQZ A B=true:=by
 unfold ZQZ;rw[List.all_eq_true];intro i hi;have hi:=List.mem_range.1 hi;have hA:i<A.length:=by omega
 have:=h i hi hA;simp[List.getD_eq_getElem?_getD,List.getElem?_eq_getElem hi,List.getElem?_eq_getElem hA,this]
theorem ZUU (vs:List Vx) (A:List Int) (ws:List Vx) (B:List Int):Fn Tryz.prog 11 [dS Lab (vs,A),dS Lab (ws,B)] (dT [dB (ZKt vs A ws B).1,dI (ZKt vs A ws B).2]):=by
 have c1:=ZFW vs A;have c2:=ZFW ws B;obtain⟨o,ho⟩:∃o,ZKt vs A ws B=o:=⟨_,rfl⟩;rw[ho];unfold ZKt at ho;by_cases h1:ZAU vs A≠0
 ·rw[if_pos h1] at ho;subst ho;refine zF Tryz.func11 46 ?_;((repeat' (first|refine zS ?_|refine ZA fun Kx hK=>?_|(refine hK _ _ ?_;clear hK)|(apply zV;(focus ((first|(apply ZVy;exact ZAz;exact ZVh rfl)|(apply ZVm (c1) Tryz.call13;exact ZV9 (ZVh rfl) (ZWJ))|exact yG);all_goals infer_instance));exact zQ)|(apply ZG;exact oD;all_goals (intro h;try exact xD))|refine ZVs ?_|refine ZVz ?_));all_goals ((repeat clear hK);repeat clear Kx))
  all_goals try exact xO
  (refine⟨trivial,⟨_,rfl,?_⟩,_,rfl,?_⟩ <;> exact fD)
 rw[if_neg h1] at ho;have h1':ZAU vs A=0:=Classical.byContradiction h1;rw[h1'] at c1;by_cases h2:ZAU ws B≠0
 ·rw[if_pos h2] at ho;subst ho;refine zF Tryz.func11 46 ?_;((repeat' (first|refine zS ?_|refine ZA fun Kx hK=>?_|(refine hK _ _ ?_;clear hK)|(apply zV;(focus ((first|(apply ZVy;exact ZAz;exact ZVh rfl)|(apply ZVm (c1) Tryz.call13;exact ZV9 (ZVh rfl) (ZWJ))|(apply ZVm (c2) Tryz.call13;exact ZV9 (ZVh rfl) (ZWJ))|exact yG);all_goals infer_instance));exact zQ)|(apply ZG;exact oD;all_goals (intro h;try exact xD))|refine ZVr ?_|refine ZVs ?_|refine ZVz ?_));all_goals ((repeat clear hK);repeat clear Kx))
  all_goals try exact xO
  (refine⟨trivial,⟨_,rfl,?_⟩,_,rfl,?_⟩ <;> exact fD)
 rw[if_neg h2] at ho;have h2':ZAU ws B=0:=Classical.byContradiction h2;rw[h2'] at c2;obtain⟨f1,f2,f3,f4,f5⟩:=ZAm h1';obtain⟨g1,g2,g3,g4,g5⟩:=ZAm h2';have c4:=ZMs ws B fun m hm=>by have:=g5 m hm;omega
 have c5:=ZU6 vs ws;by_cases h3:ZUk B=false
 ·rw[if_pos h3] at ho;subst ho;rw[h3] at c4;refine zF Tryz.func11 46 ?_;((repeat' (first|refine zS ?_|refine ZA fun Kx hK=>?_|(refine hK _ _ ?_;clear hK)|(apply zV;(focus ((first|(apply ZVy;exact ZAz;exact ZVh rfl)|(apply ZVm (c1) Tryz.call13;exact ZV9 (ZVh rfl) (ZWJ))|(apply ZVm (c2) Tryz.call13;exact ZV9 (ZVh rfl) (ZWJ))|(apply ZVm (c4) Tryz.call35;exact aD)|exact yG);all_goals infer_instance));exact zQ)|(apply ZG;exact oD;all_goals (intro h;try exact xD))|(apply ZO;exact oD;all_goals (intro h;try exact xD))|refine ZVr ?_|refine ZVs ?_|refine ZVz ?_));all_goals ((repeat clear hK);repeat clear Kx))
  all_goals try exact xO
  (refine⟨trivial,⟨_,rfl,?_⟩,_,rfl,?_⟩ <;> exact fD)
 rw[if_neg h3] at ho;have h3':ZUk B=true:=by simpa using h3
 rw[h3'] at c4;by_cases h4:vs=ws
 ·rw[if_pos h4] at ho;rw[decide_eq_true h4] at c5;have hAB:A.length=B.length:=by rw[f2,g2,h4]
  refine zF Tryz.func11 46 ?_;(repeat' (first|refine zS ?_|refine ZA fun Kx hK=>?_|(refine hK _ _ ?_;clear hK)|(apply zV;(focus ((first|(apply ZVy;exact ZAz;exact ZVh rfl)|(refine ZW ZAp (ZVh rfl) ZAA rfl rfl)|(apply ZVy;exact ZHd;exact ZVh rfl)|(apply ZVm (c1) Tryz.call13;exact ZV9 (ZVh rfl) (ZWJ))|(apply ZVm (c2) Tryz.call13;exact ZV9 (ZVh rfl) (ZWJ))|(apply ZVm (c4) Tryz.call35;exact aD)|(apply ZVm (c5) Tryz.call36;exact aD)|((first|apply ZVo|apply ZVn|apply ZVq|apply ZV7|apply ZVv|apply SY.and|apply ZVw) <;> exact oD)|(apply ZVu;exact oD;exact nD;exact uD)|(apply ZV3;exact oD;exact hD));all_goals infer_instance));exact zQ)|(apply ZG;exact oD;all_goals (intro h;try exact xD))|(apply ZO;exact oD;all_goals (intro h;try exact xD))|refine ZVr ?_|refine ZVp ?_))
  all_goals try exact xO
  (refine ZV4 (X:=Nat) (fun k=>[(32,dI (k:Int)),(4,dA),(5,dA),(8,dA),(9,dA),(33,dA),(34,dA),(35,dA),(36,dA),(37,dA),(38,dA),(39,dA),(40,dA),(41,dA),(42,dA),(43,dA),(44,dA),(45,dA)]) (fun k=>[]) (fun k=>B.length-k) (fun k=>k≤B.length/\∀i (hi:i<B.length) (hA:i<A.length),i<k->ZQt B[i] A[i]≠0) 0 ?start ?frame0 ?objs0 ?round)
  case start=>exact⟨Nat.zero_le _,fun i _ _ h=>absurd h (Nat.not_lt_zero i)⟩
  case frame0=>exact zFr
  case objs0=>rfl
  case round =>
   rintro k ⟨hk,hno⟩;dsimp only[ZH,z0,z1];by_cases hkl:k<B.length
   ·have hkI:(k:Int)<(B.length:Int):=by omega
    have hkA:k<A.length:=by omega
    by_cases hz:ZQt B[k] A[k]=0
    ·rw[ZSS hkl hkA hz] at ho;subst ho;((repeat' (first|refine zS ?_|refine ZA fun Kx hK=>?_|(refine hK _ _ ?_;clear hK)|(apply zV;(focus ((first|(refine ZW ZAp (ZVh rfl) ZAA rfl rfl)|(apply ZVy;exact ZHd;exact ZVh rfl)|(exact ZV8 (R:=RI) (_gR:=inferInstance) (k:=k) elI (ZVh rfl) (ZVh rfl) hkl)|(exact ZV8 (R:=RI) (_gR:=inferInstance) (k:=k) elI (ZVh rfl) (ZVh rfl) hkA)|exact yG);all_goals infer_instance));exact zQ)|(apply ZB;exact oD;all_goals (intro h;try exact xD))|refine ZVr ?_|refine ZVs ?_|refine ZVp ?_|refine ZVz ?_|refine ZWC ?_));all_goals ((repeat clear hK);repeat clear Kx))
     all_goals try exact xO
     (refine⟨trivial,⟨_,rfl,?_⟩,_,rfl,?_⟩ <;> exact fD)
    ·((repeat' (first|refine zS ?_|refine ZA fun Kx hK=>?_|(refine hK _ _ ?_;clear hK)|(apply zV;(focus ((first|(refine ZW ZAp (ZVh rfl) ZAA rfl rfl)|(apply ZVy;exact ZHd;exact ZVh rfl)|(exact ZV8 (R:=RI) (_gR:=inferInstance) (k:=k) elI (ZVh rfl) (ZVh rfl) hkl)|(exact ZV8 (R:=RI) (_gR:=inferInstance) (k:=k) elI (ZVh rfl) (ZVh rfl) hkA)|exact yG);all_goals infer_instance));exact zQ)|(apply ZB;exact oD;all_goals (intro h;try exact xD))|refine ZVr ?_|refine ZVp ?_|refine ZVx ?_));all_goals ((repeat clear hK);repeat clear Kx))
     all_goals try exact xO
     (refine zNx (k+1) ?_;(try dsimp only))
     refine⟨hkl,fun i hi hA hik=>?_⟩;by_cases e:i=k
     ·subst e;exact hz
     ·exact hno i hi hA (by omega)
   ·have hkI:¬ (k:Int)<(B.length:Int):=by omega
    rw[ZQa hAB fun i hi hA=>hno i hi hA (by omega)] at ho;subst ho;((repeat' (first|refine zS ?_|refine ZA fun Kx hK=>?_|(refine hK _ _ ?_;clear hK)|(refine ZV0 ?_;clear hK)|(apply zV;exact yG;exact zQ)|(apply ZB;exact oD;all_goals (intro h;try exact xD))|refine ZVs ?_|refine ZV1 ?_));all_goals ((repeat clear hK);repeat clear Kx))
    all_goals try exact xO
    (refine⟨trivial,⟨_,rfl,?_⟩,_,rfl,?_⟩ <;> exact fD)
 ·rw[if_neg h4] at ho;subst ho;rw[decide_eq_false h4] at c5;refine zF Tryz.func11 46 ?_;((repeat' (first|refine zS ?_|refine ZA fun Kx hK=>?_|(refine hK _ _ ?_;clear hK)|(apply zV;(focus ((first|(apply ZVy;exact ZAz;exact ZVh rfl)|(refine ZW ZAp (ZVh rfl) ZAA rfl rfl)|(apply ZVm (c1) Tryz.call13;exact ZV9 (ZVh rfl) (ZWJ))|(apply ZVm (c2) Tryz.call13;exact ZV9 (ZVh rfl) (ZWJ))|(apply ZVm (c4) Tryz.call35;exact aD)|(apply ZVm (c5) Tryz.call36;exact aD)|exact yG);all_goals infer_instance));exact zQ)|(apply ZG;exact oD;all_goals (intro h;try exact xD))|(apply ZO;exact oD;all_goals (intro h;try exact xD))|refine ZVr ?_|refine ZVs ?_|refine ZVz ?_));all_goals ((repeat clear hK);repeat clear Kx))
  all_goals try exact xO
  (refine⟨trivial,⟨_,rfl,?_⟩,_,rfl,?_⟩ <;> exact fD)
end
section
open Go.RowKit
def hKL {α:Type} (R:Rel α) [Good R] (M:List (Value × α)):HObj where
 blk:=none
 ok:=fun I w=>∀p∈M,(dS R p.2).rd I w p.1
 weak:=fun h q p hp=>(dS R p.2).weak (h p hp) q
 bound:=fun h p hp=>(dS R p.2).bound (h p hp)
 move:=fun h hg hP _ p hp=>(dS R p.2).grown (h p hp) hg hP
section
variable {P:Program} {ops:Array Oper} {hp:List HObj} {o:Oper} {fr:List Dat} {d d2:Dat} {Q:Z4} {rest:List Oper} {c:Code}
variable {dst:Option Tmp} {ty:TypeId} {ps:String} {af:Array Edge} {g:Option (Nat × Bool)} {t k e:TypeId} {z:Value} {K V α:Type} {kv:K->Value} {ok:K->Prop} {vv:V->Value} {b r:Nat} {m:List (K × V)} {R:Rel α}
theorem ZTW (s:Nat) (ht:fr[s]?=some d) (h:∀v,WL P ops Q rest (fr.set s (dX v)) (ZAn v d::hp)):WL P ops Q rest fr hp:=WL.of fun P0 B w0 w a hh hf=>by
 have hg:(ZAn (a.tmps.getD s undef) d).blk=none:=rfl;have hd:=hf.rd s d ht;refine(h (a.tmps.getD s undef)).on (ZBU (l:=[]) hg hh hd) ⟨hf.defers,by rw[hf.size,List.length_set],fun t' d' hd'=>?_⟩;by_cases htt:s=t'
 ·subst htt;rw[List.getElem?_set] at hd';simp only[if_true] at hd';split at hd'
  ·cases hd';rfl
  ·cases hd'
 ·rw[List.getElem?_set_ne htt] at hd';exact d'.weak (hf.rd t' d' hd') fun k=>(ZAN hg [] k).2
theorem ZOa {gh:HObj} (hg:gh.blk=none) (ho:∀I w,(∀o∈hp,o.ok I w)->gh.ok I w) (h:WL P ops Q rest fr (gh::hp)):WL P ops Q rest fr hp:=WL.of fun _ _ _ _ _ hh hf =>
 h.on (ZBU (l:=[]) hg hh (ho _ _ fun o hm=>hh.ok o hm)) (hf.mono fun d _ hd=>d.weak hd fun k=>(ZAN hg [] k).2)
theorem ZOR {gh:HObj} (hg:gh.blk=none) (ho:∀I w,(∀o∈hp,o.ok I w)->gh.ok I w) (h:WC P Q c fr (gh::hp)):WC P Q c fr hp:=WC.of fun _ _ _ _ _ hh hf =>
 h.on (ZBU (l:=[]) hg hh (ho _ _ fun o hm=>hh.ok o hm)) (hf.mono fun d _ hd=>d.weak hd fun k=>(ZAN hg [] k).2)
theorem ZIO {o:HObj} (h:WL P ops Q rest fr hp):WL P ops Q rest fr (o::hp):=WL.of fun _ _ _ _ _ hh hf=>h.on hh.drop (hf.mono fun d _ hd=>d.weak hd ZWZ)
theorem ZRD {o:HObj} (h:WC P Q c fr hp):WC P Q c fr (o::hp):=WC.of fun _ _ _ _ _ hh hf=>h.on hh.drop (hf.mono fun d _ hd=>d.weak hd ZWZ)
section
variable [DecidableEq K] {M:List (K × Value × α)} {_gR:Good R}
theorem ZJc {x y:Operand} {v:K} {p:Value × α} (T:MapT P t k e z) (H:KeyT P k kv ok) (hx:OpD fr x (dX (.map (some b)))) (hm:hM b kv (fun p:Value × α=>p.1) M∈hp) (hk:hKL R (M.map (·.2))∈hp) (hy:OpD fr y d) (hd:IsV d (kv v)) (ho:ok v) (hok:∀p∈M,ok p.1) (hn:(M.map (·.1)).Nodup) (hl:Go.Proofs.YtofkoleingbbpaaGreatDoor.lookM M v=some p) (hp':p∈M.map (·.2)) :
  SY P ops hp ⟨dst,.lookup t x y true,ty,ps,af,g⟩ fr (dT [dS R p.2,dB true]):=ZAG fun {P0 B w0 w a} hh hon=>by
 have h1:a.eval x=_:=hx.get (by simp[Op.operands]) hon;have h2:=hd.is _ _ _ (hy.get (by simp[Op.operands]) hon);have hr:=ZDF T H hok hn ho (hh.ok _ hm) true;rw[hl] at hr;refine⟨_,w,?_,ZWS _,[p.1,.bool true],rfl,rfl,fun i e x he hx=>?_⟩
 ·unfold execOp;simp only[h1,h2,Sem.run_bind,hr,Result.andThen_ok,Sem.run_pure];rfl
 ·match i,he,hx with
  | 0,he,hx=>cases he;cases hx;exact hh.ok _ hk p hp'
  | 1,he,hx=>cases he;cases hx;rfl
theorem ZJb {x y:Operand} {v:K} (T:MapT P t k e z) (H:KeyT P k kv ok) (hx:OpD fr x (dX (.map (some b)))) (hm:hM b kv (fun p:Value × α=>p.1) M∈hp) (hy:OpD fr y d) (hd:IsV d (kv v)) (ho:ok v) (hok:∀p∈M,ok p.1) (hn:(M.map (·.1)).Nodup) (hl:Go.Proofs.YtofkoleingbbpaaGreatDoor.lookM M v=none) :
  SY P ops hp ⟨dst,.lookup t x y true,ty,ps,af,g⟩ fr (dT [dX z,dB false]):=by
 have h:=ZOD (P:=P) (ops:=ops) (dst:=dst) (ty:=ty) (ps:=ps) (af:=af) (g:=g) T H hx hm hy hd ho hok hn;rw[hl] at h;exact h
theorem ZOe {x y:Operand} {s:Nat} {v:K} {u:α} (T:MapT P t k e z) (H:KeyT P k kv ok) (hx:∀q,OpD (fr.set s (dX q)) x (dX (.map (some b)))) (hy:∀q,OpD (fr.set s (dX q)) y d) (hd:IsV d (kv v)) (hs:fr[s]?=some (dS R u)) (hc:∀q,OpD (fr.set s (dX q)) (.tmp s) (dX q)) (ho:ok v) (hok:∀p∈M,ok p.1) (hn:(M.map (·.1)).Nodup)
  (h:∀q,WL P ops Q rest (ZC (fr.set s (dX q)) dst (dX undef)) (hM b kv (fun p:Value × α=>p.1) (ZCH M v (q,u))::hKL R ((ZCH M v (q,u)).map (·.2))::hp)) :
  WL P ops Q (⟨dst,.mapUpdate t x y (.tmp s),ty,ps,af,none⟩::rest) fr (hM b kv (fun p:Value × α=>p.1) M::hKL R (M.map (·.2))::hp):=by
 refine ZTW s hs fun q=>?_;refine ZWP (List.Perm.swap _ _ _) ?_;refine ZBW (u:=(q,u)) T H (hx q) (hy q) hd (hc q) isX ho hok hn ?_;refine ZOa (gh:=hKL R ((ZCH M v (q,u)).map (·.2))) rfl (fun I w hall=>?_) ?_
 ·have h1:(dS R u).rd I w q:=hall (ZAn q (dS R u)) (by simp);have h2:(hKL R (M.map (·.2))).ok I w:=hall _ (by simp);intro p hp;obtain⟨r,hr,rfl⟩:=List.mem_map.1 hp;unfold ZCH at hr;split at hr
  ·obtain⟨r',hr',rfl⟩:=List.mem_map.1 hr;split
   ·exact h1
   ·exact h2 _ (List.mem_map_of_mem hr')
  ·rcases List.mem_append.1 hr with hr|hr
   ·exact h2 _ (List.mem_map_of_mem hr)
   ·rw[List.mem_singleton.1 hr];exact h1
 ·refine ZWP (List.Perm.swap _ _ _) ?_;refine ZWP (show List.Perm _ (ZAn q (dS R u)::hKL R (M.map (·.2))::hM b kv (fun p:Value × α=>p.1) (ZCH M v (q,u))::hKL R ((ZCH M v (q,u)).map (·.2))::hp) from ?_) (ZIO (ZIO (h q)));exact((List.perm_append_comm (l₁:=[hM b kv (fun p:Value × α=>p.1) (ZCH M v (q,u)),hKL R ((ZCH M v (q,u)).map (·.2))]) (l₂:=[ZAn q (dS R u),hKL R (M.map (·.2))])).append_right hp)
theorem ZN6 {x:Operand} {seen:Array Nat} {j:Nat} (hx:OpD fr x (dX (.pointer (some ⟨r,0,none⟩)))) (hi:hIt b r M.length (seen.push j)∈hp) (hm:hM b kv (fun p:Value × α=>p.1) M∈hp) (hk:hKL R (M.map (·.2))∈hp) (hj:j<M.length) :
  SY P ops hp ⟨dst,.entry x,ty,ps,af,g⟩ fr (dT [dX (kv M[j].1),dS R M[j].2.2]):=SY.mk fun hh hon K Q hkk =>
 (ZN7 (P:=P) (ops:=ops) (dst:=dst) (ty:=ty) (ps:=ps) (af:=af) (g:=g) (fr:=fr) hx hi hm hj).out hh hon K Q fun v w' hxt ⟨us,h3,h4,h5⟩=>hkk v w' hxt ⟨us,h3,h4,fun i e x he hx=>by
  match i,he,hx with
  | 0,he,hx=>exact h5 0 e x he hx
  | 1,he,hx =>
   cases he;have h6:(dX M[j].2.1).rd _ w' x:=h5 1 (dX M[j].2.1) x rfl hx;have h7:=(hh.ext hxt).ok _ hk M[j].2 (List.mem_map_of_mem (List.getElem_mem hj));have h8:x=M[j].2.1:=h6;rw[h8];exact h7⟩
end
end
end
end Go.Proofs.YtofkoleingbbpaaGreatDoor
namespace Go.Proofs.YtofkoleingbbpaaGreatDoor.L05
section
def plus:List Int->List Int->List Int
 | [],b=>b
 | x::a,[]=>x::a
 | x::a,y::b=>if x<y then x::plus a (y::b) else if y<x then y::plus (x::a) b else plus a b
termination_by a b=>a.length+b.length
abbrev Asc (a:List Int):Prop:=a.Pairwise (· < ·)
theorem plus_nil (a:List Int):plus a []=a:=by cases a <;> rw[plus]
theorem nil_plus (a:List Int):plus [] a=a:=by rw[plus]
theorem ZUK {c:Int}:∀(n:Nat) (a b:List Int),a.length+b.length≤n->(∀x∈a,c<x)->(∀x∈b,c<x)->∀x∈plus a b,c<x:=by
 intro n;induction n with
 | zero =>
  intro a b hn ha hb x hx;have h1:a=[]:=List.length_eq_zero_iff.1 (by omega);subst h1;rw[nil_plus] at hx;exact hb x hx
 | succ n ih =>
  intro a b hn ha hb x hx
  match a,b,hn,ha,hb,hx with
  | [],b,_,_,hb,hx=>rw[nil_plus] at hx;exact hb x hx
  | y::a,[],_,ha,_,hx=>rw[plus_nil] at hx;exact ha x hx
  | y::a,z::b,hn,ha,hb,hx =>
   rw[plus] at hx;simp only[List.length_cons] at hn;split at hx
   ·rcases List.mem_cons.1 hx with rfl|hx
    ·exact ha _ (by simp)
    ·exact ih a (z::b) (by simp only[List.length_cons];omega) (fun w hw=>ha w (by simp[hw])) hb x hx
   ·split at hx
    ·rcases List.mem_cons.1 hx with rfl|hx
     ·exact hb _ (by simp)
     ·exact ih (y::a) b (by simp only[List.length_cons];omega) ha (fun w hw=>hb w (by simp[hw])) x hx
    ·exact ih a b (by omega) (fun w hw=>ha w (by simp[hw])) (fun w hw=>hb w (by simp[hw])) x hx
theorem ZI4 {c:Int} {a b:List Int} (ha:∀x∈a,c<x) (hb:∀x∈b,c<x):∀x∈plus a b,c<x:=ZUK _ a b (Nat.le_refl _) ha hb
theorem iffA {p q r:Prop} (h:r->p->False) (h2:r->q->False):(r\/¬ (p↔q))↔¬ ((r\/p)↔q):=by
 by_cases hr:r
 ·have hp:=h hr;have hq:¬ q:=h2 hr;simp[hr,hq]
 ·simp[hr]
theorem ZMj:∀(n:Nat) (a b:List Int),a.length+b.length≤n->Asc a->Asc b->Asc (plus a b)/\∀x,x∈plus a b↔¬ (x∈a↔x∈b):=by
 intro n;induction n with
 | zero =>
  intro a b hn ha hb;have h1:a=[]:=List.length_eq_zero_iff.1 (by omega);subst h1;rw[nil_plus];exact⟨hb,fun x=>by simp⟩
 | succ n ih =>
  intro a b hn ha hb
  match a,b,hn,ha,hb with
  | [],b,_,_,hb=>rw[nil_plus];exact⟨hb,fun x=>by simp⟩
  | y::a,[],_,ha,_=>rw[plus_nil];exact⟨ha,fun x=>by simp only[List.not_mem_nil,iff_false,Classical.not_not]⟩
  | y::a,z::b,hn,ha,hb =>
   simp only[List.length_cons] at hn;obtain⟨ha1,ha2⟩:=List.pairwise_cons.1 ha;obtain⟨hb1,hb2⟩:=List.pairwise_cons.1 hb;rw[plus];split
   ·rename_i hyz;obtain⟨i1,i2⟩:=ih a (z::b) (by simp only[List.length_cons];omega) ha2 hb;have hlt:∀w∈z::b,y<w:=fun w hw=>by
     rcases List.mem_cons.1 hw with rfl|hw
     ·exact hyz
     ·have:=hb1 w hw;omega
    refine⟨List.pairwise_cons.2 ⟨ZI4 ha1 hlt,i1⟩,fun x=>?_⟩;rw[List.mem_cons,i2 x,List.mem_cons (a:=x) (b:=y)];exact iffA (fun e q=>by have:=ha1 x q;omega) (fun e q=>by have:=hlt x q;omega)
   ·rename_i hyz;split
    ·rename_i hzy;obtain⟨i1,i2⟩:=ih (y::a) b (by simp only[List.length_cons];omega) ha hb2;have hlt:∀w∈y::a,z<w:=fun w hw=>by
      rcases List.mem_cons.1 hw with rfl|hw
      ·exact hzy
      ·have:=ha1 w hw;omega
     refine⟨List.pairwise_cons.2 ⟨ZI4 hlt hb1,i1⟩,fun x=>?_⟩;rw[List.mem_cons,i2 x,List.mem_cons (a:=x) (b:=z)];have:=iffA (r:=x=z) (p:=x∈b) (q:=x∈y::a) (fun e q=>by have:=hb1 x q;omega) (fun e q=>by have:=hlt x q;omega);rw[iff_comm (a:=x∈b),iff_comm (a:=x=z\/x∈b)] at this;exact this
    ·rename_i hzy;obtain rfl:y=z:=by omega
     obtain⟨i1,i2⟩:=ih a b (by omega) ha2 hb2;refine⟨i1,fun x=>?_⟩;rw[i2 x,List.mem_cons,List.mem_cons];by_cases hxy:x=y
     ·have h1:¬ x∈a:=fun q=>by have:=ha1 x q;omega
      have h2:¬ x∈b:=fun q=>by have:=hb1 x q;omega
      simp only[hxy,true_or,not_true,iff_false];rw[hxy] at h1 h2;simp only[h1,h2,not_true,not_false_eq_true]
     ·simp only[hxy,false_or]
theorem ZAR {a b:List Int} (ha:Asc a) (hb:Asc b):Asc (plus a b):=(ZMj _ a b (Nat.le_refl _) ha hb).1
theorem ZAZ {a b:List Int} (ha:Asc a) (hb:Asc b) {x:Int}:x∈plus a b↔¬ (x∈a↔x∈b):=(ZMj _ a b (Nat.le_refl _) ha hb).2 x
theorem asc_ext:∀ {a b:List Int},Asc a->Asc b->(∀x,x∈a↔x∈b)->a=b
 | [],[],_,_,_=>rfl
 | [],y::b,_,_,h=>absurd ((h y).2 (by simp)) (by simp)
 | x::a,[],_,_,h=>absurd ((h x).1 (by simp)) (by simp)
 | x::a,y::b,ha,hb,h=>by
  obtain⟨ha1,ha2⟩:=List.pairwise_cons.1 ha;obtain⟨hb1,hb2⟩:=List.pairwise_cons.1 hb;have hxy:x=y:=by
   rcases List.mem_cons.1 ((h x).1 (by simp)) with e|e
   ·exact e
   ·rcases List.mem_cons.1 ((h y).2 (by simp)) with e'|e'
    ·exact e'.symm
    ·have:=hb1 x e;have:=ha1 y e';omega
  subst hxy;congr 1;refine asc_ext ha2 hb2 fun z=>⟨fun hz=>?_,fun hz=>?_⟩
  ·rcases List.mem_cons.1 ((h z).1 (by simp[hz])) with e|e
   ·subst e;have:=ha1 z hz;omega
   ·exact e
  ·rcases List.mem_cons.1 ((h z).2 (by simp[hz])) with e|e
   ·subst e;have:=hb1 z hz;omega
   ·exact e
theorem ZHI {a:List Int} (ha:Asc a):plus a a=[]:=asc_ext (ZAR ha ha) List.Pairwise.nil fun x=>by rw[ZAZ ha ha];simp
theorem ZP4 {a b:List Int} (ha:Asc a) (hb:Asc b):plus a b=plus b a:=asc_ext (ZAR ha hb) (ZAR hb ha) fun x=>by
 rw[ZAZ ha hb,ZAZ hb ha];exact⟨fun h q=>h q.symm,fun h q=>h q.symm⟩
theorem ZDD {a b c:List Int} (ha:Asc a) (hb:Asc b) (hc:Asc c):plus (plus a b) c=plus a (plus b c):=asc_ext (ZAR (ZAR ha hb) hc) (ZAR ha (ZAR hb hc)) fun x=>by
 rw[ZAZ (ZAR ha hb) hc,ZAZ ha (ZAR hb hc),ZAZ ha hb,ZAZ hb hc];by_cases h1:x∈a <;> by_cases h2:x∈b <;> by_cases h3:x∈c <;> simp[h1,h2,h3]
inductive Span (B:List (List Int)):List Int->Prop
 | zero:Span B []
 | add {r v:List Int}:r∈B->Span B v->Span B (plus r v)
abbrev AllAsc (B:List (List Int)):Prop:=∀r∈B,Asc r
theorem Span.asc {B:List (List Int)} (hB:AllAsc B) {v:List Int} (h:Span B v):Asc v:=by
 induction h with
 | zero=>exact List.Pairwise.nil
 | add hr _ ih=>exact ZAR (hB _ hr) ih
theorem Span.one {B:List (List Int)} {r:List Int} (h:r∈B):Span B r:=by
 have:=Span.add h Span.zero;rwa[plus_nil] at this
theorem Span.plus {B:List (List Int)} (hB:AllAsc B) {u v:List Int} (hu:Span B u) (hv:Span B v):Span B (plus u v):=by
 induction hu with
 | zero=>rw[nil_plus];exact hv
 | add hr h ih =>
  rw[ZDD (hB _ hr) (h.asc hB) (hv.asc hB)];exact Span.add hr ih
theorem Span.trans {B C:List (List Int)} (hC:AllAsc C) (h:∀r∈B,Span C r) {v:List Int} (hv:Span B v):Span C v:=by
 induction hv with
 | zero=>exact Span.zero
 | add hr _ ih=>exact Span.plus hC (h _ hr) ih
structure Red (B:List (List Int)):Prop where
 asc:AllAsc B
 pos:∀r∈B,r≠[]
 one:∀r∈B,∀s∈B,∀c,r.head?=some c->c∈s->s=r
theorem head_mem {r:List Int} {c:Int} (h:r.head?=some c):c∈r:=by
 cases r with
 | nil=>cases h
 | cons x r=>simp only[List.head?_cons,Option.some.injEq] at h;simp[h]
theorem ZFd {r:List Int} {c:Int} (hr:Asc r) (h:r.head?=some c):∀x∈r,c≤x:=by
 cases r with
 | nil=>cases h
 | cons y r =>
  simp only[List.head?_cons,Option.some.injEq] at h;subst h;intro x hx;rcases List.mem_cons.1 hx with rfl|hx
  ·exact Int.le_refl _
  ·exact Int.le_of_lt ((List.pairwise_cons.1 hr).1 x hx)
theorem ZM1 {B:List (List Int)} (hB:Red B) {v:List Int} (h:Span B v):∃S:List (List Int),(∀r∈S,r∈B)/\S.Nodup/\∀n,n∈v↔(S.filter fun r=>decide (n∈r)).length % 2=1:=by
 induction h with
 | zero=>exact⟨[],(fun r hr=>by cases hr),List.nodup_nil,fun n=>by simp⟩
 | @add r v hr hv ih =>
  obtain⟨S,s1,s2,s3⟩:=ih;have hm:=fun n=>@ZAZ r v (hB.asc r hr) (hv.asc hB.asc) n;by_cases hrS:r∈S
  ·refine⟨S.erase r,fun s hs=>s1 s (List.mem_of_mem_erase hs),s2.erase r,fun n=>?_⟩;rw[hm n,s3 n];have hp:=(List.perm_cons_erase hrS).filter (fun r=>decide (n∈r));have hl:=hp.length_eq;rw[List.filter_cons] at hl;by_cases hn:n∈r
   ·rw[if_pos (by simpa using hn)] at hl;simp only[List.length_cons] at hl;simp only[hn,true_iff];omega
   ·rw[if_neg (by simpa using hn)] at hl;simp only[hn,false_iff,Classical.not_not];omega
  ·refine⟨r::S,fun s hs=>?_,List.nodup_cons.2 ⟨hrS,s2⟩,fun n=>?_⟩
   ·rcases List.mem_cons.1 hs with rfl|hs
    ·exact hr
    ·exact s1 s hs
   ·rw[hm n,s3 n,List.filter_cons];by_cases hn:n∈r
    ·rw[if_pos (by simpa using hn)];simp only[List.length_cons,hn,true_iff];omega
    ·rw[if_neg (by simpa using hn)];simp only[hn,false_iff,Classical.not_not]
theorem ZLX {S:List (List Int)} (hS:S.Nodup) {r:List Int} {p:List Int->Bool} (hr:r∈S) (hp:p r=true) (ho:∀s∈S,p s=true->s=r):(S.filter p).length=1:=by
 induction S with
 | nil=>cases hr
 | cons s S ih =>
  obtain⟨n1,n2⟩:=List.nodup_cons.1 hS;rw[List.filter_cons];by_cases hs:s=r
  ·subst hs;rw[if_pos hp];have:S.filter p=[]:=List.filter_eq_nil_iff.2 fun t ht hpt=>n1 (by have:=ho t (by simp[ht]) hpt;subst this;exact ht);rw[this];rfl
  ·have hrS:r∈S:=(List.mem_cons.1 hr).resolve_left fun e=>hs e.symm;rw[if_neg (fun q=>hs (ho s (by simp) q))];exact ih n2 hrS fun t ht=>ho t (by simp[ht])
theorem Red.head {B:List (List Int)} (hB:Red B) {v:List Int} (hv:Span B v) {c:Int} (hc:v.head?=some c):∃r∈B,r.head?=some c:=by
 obtain⟨S,s1,s2,s3⟩:=ZM1 hB hv;have hva:=hv.asc hB.asc;have h1:=(s3 c).1 (head_mem hc);cases hf:S.filter (fun r=>decide (c∈r)) with
 | nil=>rw[hf] at h1;simp at h1
 | cons r F =>
  have hrF:r∈S.filter (fun r=>decide (c∈r)):=by rw[hf];simp
  obtain⟨hrS,hcr⟩:=List.mem_filter.1 hrF;have hcr:c∈r:=of_decide_eq_true hcr;have hrB:=s1 r hrS;obtain⟨d,hd⟩:∃d,r.head?=some d:=by
   cases r with
   | nil=>exact absurd rfl (hB.pos _ hrB)
   | cons y r=>exact⟨y,rfl⟩
  have hdc:=ZFd (hB.asc r hrB) hd c hcr;have hdv:d∈v:=(s3 d).2 (by
   rw[ZLX s2 hrS (decide_eq_true (head_mem hd)) fun s hs q=>hB.one r hrB s (s1 s hs) d hd (of_decide_eq_true q)])
  have:=ZFd hva hc d hdv;obtain rfl:d=c:=by omega
  exact⟨r,hrB,hd⟩
theorem Red.sub {B C:List (List Int)} (hB:Red B) (hC:Red C) (h1:∀r∈B,Span C r) (h2:∀r∈C,Span B r):∀r∈B,r∈C:=by
 intro r hr;obtain⟨c,hc⟩:∃d,r.head?=some d:=by
  cases r with
  | nil=>exact absurd rfl (hB.pos _ hr)
  | cons y r=>exact⟨y,rfl⟩
 obtain⟨s,hs,hsc⟩:=hC.head (h1 r hr) hc;have hra:=hB.asc r hr;have hsa:=hC.asc s hs;have hsp:Span C (plus r s):=Span.plus hC.asc (h1 r hr) (Span.one hs);cases hp:plus r s with
 | nil =>
  have:r=s:=asc_ext hra hsa fun x=>by
   have:=@ZAZ r s hra hsa x;rw[hp] at this;simp only[List.not_mem_nil,false_iff,Classical.not_not] at this;exact this
  subst this;exact hs
 | cons d v =>
  exfalso;rw[hp] at hsp;obtain⟨t,ht,htd⟩:=hC.head hsp (c:=d) rfl;obtain⟨u,hu,hud⟩:=hB.head (h2 t ht) htd;have hd:d∈plus r s:=by rw[hp];simp
  rw[ZAZ hra hsa] at hd;by_cases hdr:d∈r
  ·have e:=hB.one u hu r hr d hud hdr;subst e;rw[hc] at hud;cases hud;exact hd ⟨fun _=>head_mem hsc,fun _=>hdr⟩
  ·have hds:d∈s:=Classical.byContradiction fun q=>hd ⟨fun h=>absurd h hdr,fun h=>absurd h q⟩;have e:=hC.one t ht s hs d htd hds;subst e;rw[hsc] at htd;cases htd;exact hd ⟨fun _=>hds,fun _=>head_mem hc⟩
end
end Go.Proofs.YtofkoleingbbpaaGreatDoor.L05
