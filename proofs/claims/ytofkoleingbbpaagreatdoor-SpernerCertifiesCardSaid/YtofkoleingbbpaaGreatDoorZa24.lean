/- Part 24 of the proof. -/
import Derived.Test.YtofkoleingbbpaaGreatDoorZa23
set_option linter.all false
set_option maxRecDepth 100000
set_option maxHeartbeats 64000000
namespace Go.Proofs.YtofkoleingbbpaaGreatDoor
section
open Go.RowKit

theorem Z6 {P:Program} {ops:Array Oper} {hp:List HObj} {o:Oper} {fr:List Dat} {α:Type} {D:α->Dat} {x y:α} (e:x=y) (h:SY P ops hp o fr (D x)):SY P ops hp o fr (D y):=e ▸ h
def ZNT (p:Option (List Vx)) (s:List Vx):Bool:=match p with|none=>false|some q=>decide (0≤ZAa q s)
def ZIi (l:Cx) (k:Nat):Option (List Vx)->Cx->Int
 | _,[]=>0
 | p,s::r=>if ZAC s≠0 then ZAC s else if s.length≠k+1 then 15 else if ZBm l s=false then 6 else if ZNT p s=true then 14 else ZIi l k (some s) r
def ZQs (l:Cx):Nat->List Cx->Int
 | _,[]=>0
 | k,lv::L=>if ZIi l k none lv≠0 then ZIi l k none lv else ZQs l (k+1) L
def ZG6 (l:Cx) (L:List Cx):Int:=if L.length<1\/8<L.length then 15 else ZQs l 0 L
def ZDZ (lv:Cx) (i:Nat):Option (List Vx):=if i=0 then none else lv[i-1]?
theorem ZNe {lv:Cx} {k:Nat} (h:k<lv.length):ZDZ lv (k+1)=some lv[k]:=by
 unfold ZDZ;rw[if_neg (by omega),Nat.add_sub_cancel,List.getElem?_eq_getElem h]
theorem ZKE {l:Cx} {k i:Nat} {lv:Cx} (h:i<lv.length):ZIi l k (ZDZ lv i) (lv.drop i)=if ZAC lv[i]≠0 then ZAC lv[i] else if lv[i].length≠k+1 then 15 else if ZBm l lv[i]=false then 6 else if ZNT (ZDZ lv i) lv[i]=true then 14 else ZIi l k (ZDZ lv (i+1)) (lv.drop (i+1)):=by
 rw[List.drop_eq_getElem_cons h,ZNe h];rfl
theorem ZKD {l:Cx} {k:Nat} {L:List Cx} (h:k<L.length):ZQs l k (L.drop k)=if ZIi l k none L[k]≠0 then ZIi l k none L[k] else ZQs l (k+1) (L.drop (k+1)):=by
 rw[List.drop_eq_getElem_cons h];rfl
theorem ZMQ {l:Cx} {k:Nat}:∀ {p:Option (List Vx)} {lv:Cx},ZIi l k p lv=0->∀s∈lv,ZAC s=0/\s.length=k+1/\ZBm l s=true
 | _,[],_,s,hs=>by cases hs
 | p,x::lv,h,s,hs=>by
  unfold ZIi at h;by_cases h1:ZAC x≠0
  ·rw[if_pos h1] at h;exact absurd h h1
  rw[if_neg h1] at h;by_cases h2:x.length≠k+1
  ·rw[if_pos h2] at h;cases h
  rw[if_neg h2] at h;by_cases h3:ZBm l x=false
  ·rw[if_pos h3] at h;cases h
  rw[if_neg h3] at h;by_cases h4:ZNT p x=true
  ·rw[if_pos h4] at h;cases h
  rw[if_neg h4] at h;rcases List.mem_cons.1 hs with rfl|hs
  ·exact⟨Classical.byContradiction h1,Classical.byContradiction h2,by simpa using h3⟩
  ·exact ZMQ h s hs
theorem ZH1 (l:Cx) (f:Vx->Int) (L:List Cx) (hck:ZBC l=0) (hLv:∀lv∈L,lv.length≤1000000):Fn Tryz.prog 67 [ZHZ l f,dS ZFw L] (dI (ZG6 l L)):=by
 obtain⟨o,ho⟩:∃o,ZG6 l L=o:=⟨_,rfl⟩;rw[ho];unfold ZG6 at ho;refine zE Tryz.func67 67 ?_;(first|refine ZP (t:=1) rfl ZEG fun hl1=>?_|refine ZP (t:=1) rfl ZDu fun hl1=>?_|refine ZP (t:=1) rfl ZJS fun hl1=>?_);simp only[maxLen] at hl1
 by_cases hb:L.length<1\/8<L.length
 ·rw[if_pos hb] at ho;subst ho;by_cases h0:L.length<1
  ·have h0I:(L.length:Int)<1:=by omega
   ((repeat' (first|refine zS ?_|refine ZA fun Kx hK=>?_|(refine hK _ _ ?_;clear hK)|(apply ZF;(focus (first|exact wN|(apply ZVt;exact wY;((first|(exact ZV3 (ZVh rfl) (ZAD (n:=2) (by decide) rfl))|(apply ZVu;exact ZVh rfl;exact ZB0;exact ZAK.unt)|exact yG|fail);all_goals infer_instance))));dsimp only[ZC,z0,z1])|((first|refine ZM rfl rfl rfl (fun h=>?_) (fun h=>?_)|refine ZL rfl rfl rfl (fun h=>?_) (fun h=>?_)|refine ZK rfl rfl rfl (fun h=>?_) (fun h=>?_)) <;> (first|(exfalso;first|omega|contradiction)|(dsimp only[z0,z1])))|(apply Zf;exact oD;(with_reducible rfl))|refine ZVs ?_|refine ZVz ?_));all_goals ((repeat clear hK);repeat clear Kx))
   all_goals try exact xO
   (refine⟨trivial,_,rfl,?_⟩;exact fD)
  ·have h0I:(L.length:Int)>8:=by omega
   ((repeat' (first|refine zS ?_|refine ZA fun Kx hK=>?_|(refine hK _ _ ?_;clear hK)|(apply ZF;(focus (first|exact wN|(apply ZVt;exact wY;((first|(exact ZV3 (ZVh rfl) (ZAD (n:=2) (by decide) rfl))|(apply ZVu;exact ZVh rfl;exact ZB0;exact ZAK.unt)|exact yG|fail);all_goals infer_instance))));dsimp only[ZC,z0,z1])|((first|refine ZM rfl rfl rfl (fun h=>?_) (fun h=>?_)|refine ZL rfl rfl rfl (fun h=>?_) (fun h=>?_)|refine ZK rfl rfl rfl (fun h=>?_) (fun h=>?_)) <;> (first|(exfalso;first|omega|contradiction)|(dsimp only[z0,z1])))|(apply ZB;exact oD;all_goals (intro h;try exact xD))|refine ZVs ?_|refine ZVz ?_));all_goals ((repeat clear hK);repeat clear Kx))
   all_goals try exact xO
   (refine⟨trivial,_,rfl,?_⟩;exact fD)
 rw[if_neg hb] at ho;have hb1:¬ (L.length:Int)<1:=by omega
 have hb8:¬ (L.length:Int)>8:=by omega
 (repeat' (first|refine zS ?_|refine ZA fun Kx hK=>?_|(refine hK _ _ ?_;clear hK)|(apply ZF;(focus (first|exact wN|(apply ZVt;exact wY;((first|(exact ZV3 (ZVh rfl) (ZAD (n:=2) (by decide) rfl))|(apply ZVu;exact ZVh rfl;exact ZB0;exact ZAK.unt)|((first|apply ZVo|apply ZVn|apply ZVq|apply ZV6|apply ZWA|apply ZVv|apply ZVw) <;> exact oD)|(apply ZZ;exact oD;(with_reducible rfl);exact oD)|fail);all_goals infer_instance))));dsimp only[ZC,z0,z1])|((first|refine ZM rfl rfl rfl (fun h=>?_) (fun h=>?_)|refine ZL rfl rfl rfl (fun h=>?_) (fun h=>?_)|refine ZK rfl rfl rfl (fun h=>?_) (fun h=>?_)) <;> (first|(exfalso;first|omega|contradiction)|(dsimp only[z0,z1])))|(apply ZB;exact oD;all_goals (intro h;try exact xD))|refine ZVr ?_|refine ZVp ?_))
 all_goals try exact xO
 (refine ZV4 (X:=Nat) (fun k=>[(22,dI (k:Int)),(4,dA),(5,dA),(6,dA),(7,dA),(8,dA),(9,dA),(10,dA),(11,dA),(23,dA),(24,dA),(25,dA),(26,dA),(27,dA),(28,dA),(29,dA),(30,dA),(31,dA),(32,dA),(33,dA),(34,dA),(35,dA),(36,dA),(37,dA),(38,dA),(39,dA),(40,dA),(41,dA),(42,dA),(43,dA),(44,dA),(45,dA),(46,dA),(47,dA),(48,dA),(49,dA),(50,dA),(51,dA),(52,dA),(53,dA),(54,dA),(55,dA),(56,dA),(57,dA),(58,dA),(59,dA),(60,dA),(61,dA),(62,dA),(63,dA),(64,dA),(65,dA),(66,dA)]) (fun k=>[]) (fun k=>L.length-k) (fun k=>k≤L.length/\ZQs l k (L.drop k)=o) 0 ?start ?frame0 ?objs0 ?round)
 case start=>exact⟨Nat.zero_le _,ho⟩
 case frame0=>exact zFr
 case objs0=>rfl
 case round =>
  rintro k ⟨hk,hE⟩;dsimp only[ZH,z0,z1];by_cases hkl:k<L.length
  ·have hkI:(k:Int)<(L.length:Int):=by omega
   have hk8:(k:Int)≤8:=by omega
   rw[ZKD hkl] at hE;have hlvb:=hLv _ (List.getElem_mem hkl);obtain⟨lv,hlv⟩:∃lv,L[k]=lv:=⟨_,rfl⟩;rw[hlv] at hlvb;rw[hlv] at hE;(repeat' (first|refine zS ?_|refine ZA fun Kx hK=>?_|(refine hK _ _ ?_;clear hK)|(apply ZF;(focus (first|exact wN|(apply ZVt;exact wY;((first|(refine Z6 (D:=fun z=>dP 1 false (dS Zh z)) hlv (ZV8 (R:=Zh) (_gR:=inferInstance) (k:=k) ZAK (ZVh rfl) (ZVh rfl) hkl))|((first|apply ZVo|apply ZVn|apply ZVq|apply ZV6|apply ZWA|apply ZVv|apply ZVw) <;> exact oD)|(apply ZVu;exact oD;exact nD;exact uD)|fail);all_goals infer_instance))));dsimp only[ZC,z0,z1])|(apply ZB;exact oD;all_goals (intro h;try exact xD))|refine ZVr ?_|refine ZVp ?_))
   all_goals try exact xO
   (refine ZV4 (X:=Nat) (fun i=>[(29,dI (i:Int)),(4,dA),(7,dA),(8,dA),(9,dA),(10,dA),(11,dA),(30,dA),(31,dA),(32,dA),(33,dA),(34,dA),(35,dA),(36,dA),(37,dA),(38,dA),(39,dA),(40,dA),(41,dA),(42,dA),(43,dA),(44,dA),(45,dA),(46,dA),(47,dA),(48,dA),(49,dA),(50,dA),(51,dA),(52,dA),(53,dA),(54,dA),(55,dA),(56,dA),(57,dA),(58,dA),(59,dA),(60,dA),(61,dA),(62,dA),(63,dA),(64,dA),(65,dA)]) (fun i=>[]) (fun i=>lv.length-i) (fun i=>i≤lv.length/\(if ZIi l k (ZDZ lv i) (lv.drop i)≠0 then ZIi l k (ZDZ lv i) (lv.drop i) else ZQs l (k+1) (L.drop (k+1)))=o) 0 ?start ?frame0 ?objs0 ?round)
   case start=>exact⟨Nat.zero_le _,hE⟩
   case frame0=>exact zFr
   case objs0=>rfl
   case round =>
    rintro i ⟨hi,hG⟩;dsimp only[ZH,z0,z1];by_cases hil:i<lv.length
    ·have hiI:(i:Int)<(lv.length:Int):=by omega
     have c1:=ZNF lv[i];rw[ZKE hil] at hG;by_cases h1:ZAC lv[i]≠0
     ·rw[if_pos h1,if_pos h1] at hG;subst hG;((repeat' (first|refine zS ?_|refine ZA fun Kx hK=>?_|(refine hK _ _ ?_;clear hK)|(apply ZF;(focus (first|exact wN|(apply ZVt;exact wY;((first|(apply ZVm (c1) Tryz.call39;exact aD)|exact yG|fail);all_goals infer_instance))));dsimp only[ZC,z0,z1])|(apply ZB;exact oD;all_goals (intro h;try exact xD))|(apply ZG;exact oD;all_goals (intro h;try exact xD))|refine ZVr ?_|refine ZVs ?_|refine ZVp ?_|refine ZVz ?_|refine ZWC ?_));all_goals ((repeat clear hK);repeat clear Kx))
      all_goals try exact xO
      (refine⟨trivial,_,rfl,?_⟩;exact fD)
     have h1':ZAC lv[i]=0:=Classical.byContradiction h1;rw[h1'] at c1;rw[if_neg h1] at hG;by_cases h2:lv[i].length≠k+1
     ·have h2I:(lv[i].length:Int)≠(k:Int)+1:=by omega
      rw[if_pos h2,if_pos (by decide)] at hG;subst hG;((repeat' (first|refine zS ?_|refine ZA fun Kx hK=>?_|(refine hK _ _ ?_;clear hK)|(apply ZF;(focus (first|exact wN|(apply ZVt;exact wY;((first|(apply ZVm (c1) Tryz.call39;exact aD)|exact yG|fail);all_goals infer_instance))));dsimp only[ZC,z0,z1])|(apply ZB;exact oD;all_goals (intro h;try exact xD))|(apply ZG;exact oD;all_goals (intro h;try exact xD))|refine ZVr ?_|refine ZVs ?_|refine ZVp ?_|refine ZVz ?_|refine ZWC ?_));all_goals ((repeat clear hK);repeat clear Kx))
      all_goals try exact xO
      (refine⟨trivial,_,rfl,?_⟩;exact fD)
     have h2I:¬ (lv[i].length:Int)≠(k:Int)+1:=by omega
     rw[if_neg h2] at hG;have c2:=ZDp l lv[i];have hpl:plC l lv[i]=0:=by
      unfold plC;rw[if_neg (by simpa using hck)];exact h1'
     have hct:ZEf l lv[i]=(ZBm l lv[i],0):=by
      unfold ZEf;rw[if_neg (by simpa using hpl)]
     rw[hct] at c2;by_cases h3:ZBm l lv[i]=false
     ·rw[if_pos h3,if_pos (by decide)] at hG;rw[h3] at c2;subst hG;((repeat' (first|refine zS ?_|refine ZA fun Kx hK=>?_|(refine hK _ _ ?_;clear hK)|(apply ZF;(focus (first|exact wN|(apply ZVt;exact wY;((first|(apply ZVm (c1) Tryz.call39;exact aD)|(refine ZW ZHO (ZVh rfl) (ZWI _) rfl rfl)|(exact ZBB tyC (ZVh rfl))|(apply ZVm (c2) Tryz.call92;exact aD)|exact yG|fail);all_goals infer_instance))));dsimp only[ZC,z0,z1])|(apply ZB;exact oD;all_goals (intro h;try exact xD))|(apply ZG;exact oD;all_goals (intro h;try exact xD))|(apply ZO;exact oD;all_goals (intro h;try exact xD))|refine ZVr ?_|refine ZVs ?_|refine ZVp ?_|refine ZVz ?_|refine ZWC ?_));all_goals ((repeat clear hK);repeat clear Kx))
      all_goals try exact xO
      (refine⟨trivial,_,rfl,?_⟩;exact fD)
     have h3':ZBm l lv[i]=true:=by simpa using h3
     rw[if_neg h3] at hG;rw[h3'] at c2;by_cases h0:i=0
     ·subst h0;rw[if_neg (show ¬ ZNT (ZDZ lv 0) lv[0]=true by simp[ZDZ,ZNT])] at hG;((repeat' (first|refine zS ?_|refine ZA fun Kx hK=>?_|(refine hK _ _ ?_;clear hK)|(apply ZF;(focus (first|exact wN|(apply ZVt;exact wY;((first|(apply ZVm (c1) Tryz.call39;exact aD)|(refine ZW ZHO (ZVh rfl) (ZWI _) rfl rfl)|(exact ZBB tyC (ZVh rfl))|(apply ZVm (c2) Tryz.call92;exact aD)|exact yG|fail);all_goals infer_instance))));dsimp only[ZC,z0,z1])|((first|refine ZM rfl rfl rfl (fun h=>?_) (fun h=>?_)|refine ZL rfl rfl rfl (fun h=>?_) (fun h=>?_)|refine ZK rfl rfl rfl (fun h=>?_) (fun h=>?_)) <;> (first|(exfalso;first|omega|contradiction)|(dsimp only[z0,z1])))|(apply ZQ;exact oD;(with_reducible rfl))|(apply ZB;exact oD;all_goals (intro h;try exact xD))|(apply ZG;exact oD;all_goals (intro h;try exact xD))|(apply ZO;exact oD;all_goals (intro h;try exact xD))|refine ZVr ?_|refine ZVp ?_|refine ZVx ?_));all_goals ((repeat clear hK);repeat clear Kx))
      all_goals try exact xO
      (refine zNx (0+1) ?_;(try dsimp only))
      exact⟨hil,hG⟩
     ·have h0I:(i:Int)>0:=by omega
      have hpv:ZDZ lv i=some (lv[i-1]'(by omega)):=by
       unfold ZDZ;rw[if_neg h0,List.getElem?_eq_getElem]
      have c3:=ZHx (lv[i-1]'(by omega)) lv[i];rw[hpv] at hG;by_cases h4:0≤ZAa (lv[i-1]'(by omega)) lv[i]
      ·rw[if_pos (show ZNT (some (lv[i-1]'(by omega))) lv[i]=true from decide_eq_true h4),if_pos (by decide)] at hG;subst hG;((repeat' (first|refine zS ?_|refine ZA fun Kx hK=>?_|(refine hK _ _ ?_;clear hK)|(apply ZF;(focus (first|exact wN|(apply ZVt;exact wY;((first|(apply ZVm (c1) Tryz.call39;exact aD)|(refine ZW ZHO (ZVh rfl) (ZWI _) rfl rfl)|(exact ZBB tyC (ZVh rfl))|(apply ZVm (c2) Tryz.call92;exact aD)|(refine ZV8 (R:=ZI) (_gR:=inferInstance) (k:=i-1) ZB8 (ZVh rfl) (ZWD rfl (ZCO (by omega))) (by omega))|(apply ZVm (c3) Tryz.call80;exact aD)|exact yG|fail);all_goals infer_instance))));dsimp only[ZC,z0,z1])|((first|refine ZM rfl rfl rfl (fun h=>?_) (fun h=>?_)|refine ZL rfl rfl rfl (fun h=>?_) (fun h=>?_)|refine ZK rfl rfl rfl (fun h=>?_) (fun h=>?_)) <;> (first|(exfalso;first|omega|contradiction)|(dsimp only[z0,z1])))|(apply ZB;exact oD;all_goals (intro h;try exact xD))|(apply ZG;exact oD;all_goals (intro h;try exact xD))|(apply ZO;exact oD;all_goals (intro h;try exact xD))|refine ZVr ?_|refine ZVs ?_|refine ZVp ?_|refine ZVz ?_|refine ZWC ?_));all_goals ((repeat clear hK);repeat clear Kx))
       all_goals try exact xO
       (refine⟨trivial,_,rfl,?_⟩;exact fD)
      ·rw[if_neg (show ¬ ZNT (some (lv[i-1]'(by omega))) lv[i]=true by simpa[ZNT] using h4)] at hG;((repeat' (first|refine zS ?_|refine ZA fun Kx hK=>?_|(refine hK _ _ ?_;clear hK)|(apply ZF;(focus (first|exact wN|(apply ZVt;exact wY;((first|(apply ZVm (c1) Tryz.call39;exact aD)|(refine ZW ZHO (ZVh rfl) (ZWI _) rfl rfl)|(exact ZBB tyC (ZVh rfl))|(apply ZVm (c2) Tryz.call92;exact aD)|(refine ZV8 (R:=ZI) (_gR:=inferInstance) (k:=i-1) ZB8 (ZVh rfl) (ZWD rfl (ZCO (by omega))) (by omega))|(apply ZVm (c3) Tryz.call80;exact aD)|exact yG|fail);all_goals infer_instance))));dsimp only[ZC,z0,z1])|((first|refine ZM rfl rfl rfl (fun h=>?_) (fun h=>?_)|refine ZL rfl rfl rfl (fun h=>?_) (fun h=>?_)|refine ZK rfl rfl rfl (fun h=>?_) (fun h=>?_)) <;> (first|(exfalso;first|omega|contradiction)|(dsimp only[z0,z1])))|(apply ZB;exact oD;all_goals (intro h;try exact xD))|(apply ZG;exact oD;all_goals (intro h;try exact xD))|(apply ZO;exact oD;all_goals (intro h;try exact xD))|refine ZVr ?_|refine ZVp ?_|refine ZVx ?_));all_goals ((repeat clear hK);repeat clear Kx))
       all_goals try exact xO
       (refine zNx (i+1) ?_;(try dsimp only))
       exact⟨hil,hG⟩
    ·have hiI:¬ (i:Int)<(lv.length:Int):=by omega
     rw[List.drop_of_length_le (by omega),show ZIi l k (ZDZ lv i) []=0 by unfold ZIi;rfl,if_neg (by simp)] at hG;((repeat' (first|refine zS ?_|refine ZA fun Kx hK=>?_|(refine hK _ _ ?_;clear hK)|(refine ZV0 ?_;clear hK)|(apply ZF;(focus (first|exact wN|(apply ZVt;exact wY;((first|exact yG|fail);all_goals infer_instance))));dsimp only[ZC,z0,z1])|(apply ZB;exact oD;all_goals (intro h;try exact xD))|refine ZV1 ?_|refine ZVx ?_));all_goals ((repeat clear hK);repeat clear Kx))
     all_goals try exact xO
     (refine zNx (k+1) ?_;(try dsimp only))
     exact⟨hkl,hG⟩
  ·have hkI:¬ (k:Int)<(L.length:Int):=by omega
   rw[List.drop_of_length_le (by omega)] at hE;have h0:o=0:=by rw[<- hE];rfl
   subst h0;((repeat' (first|refine zS ?_|refine ZA fun Kx hK=>?_|(refine hK _ _ ?_;clear hK)|(refine ZV0 ?_;clear hK)|(apply ZF;(focus (first|exact wN|(apply ZVt;exact wY;((first|exact yG|fail);all_goals infer_instance))));dsimp only[ZC,z0,z1])|(apply ZB;exact oD;all_goals (intro h;try exact xD))|refine ZVs ?_|refine ZV1 ?_));all_goals ((repeat clear hK);repeat clear Kx))
   all_goals try exact xO
   (refine⟨trivial,_,rfl,?_⟩;exact fD)
end
end Go.Proofs.YtofkoleingbbpaaGreatDoor
namespace Go.Proofs.YtofkoleingbbpaaGreatDoor.C34
section
variable {α κ:Type} [DecidableEq κ]
def ZUV (m:List (κ × Bool)) (x:κ):List (κ × Bool):=ZCH m x (!(lookM m x).getD false)
def ZF9 (kx:α->κ) (fs:List α) (m:List (κ × Bool)):List (κ × Bool):=fs.foldl (fun m f=>ZUV m (kx f)) m
def togL (kx:α->κ) (fac:α->List α) (lv:List α):List (κ × Bool):=lv.foldl (fun m s=>ZF9 kx (fac s) m) []
theorem ZQb {kx:α->κ} {fs:List α} {m:List (κ × Bool)} {j:Nat} (h:j<fs.length):ZF9 kx (fs.take (j+1)) m=ZUV (ZF9 kx (fs.take j) m) (kx fs[j]):=by
 unfold ZF9;rw[ZAP h,List.foldl_append];rfl
theorem ZKv {kx:α->κ} {fac:α->List α} {lv:List α} {k:Nat} (h:k<lv.length):togL kx fac (lv.take (k+1))=ZF9 kx (fac lv[k]) (togL kx fac (lv.take k)):=by
 unfold togL;rw[ZAP h,List.foldl_append];rfl
theorem ZSV {m:List (κ × Bool)} {x y:κ}:(lookM (ZUV m x) y).getD false=if y=x then !(lookM m y).getD false else(lookM m y).getD false:=by
 unfold ZUV;rw[ZCG];by_cases h:y=x
 ·subst h;rw[if_pos rfl,if_pos rfl];rfl
 ·rw[if_neg h,if_neg h]
theorem ZKw [DecidableEq α] {kx:α->κ} {f:α}:∀(fs:List α) (m:List (κ × Bool)),fs.Nodup->(∀s∈fs,kx s=kx f->s=f)->(lookM (ZF9 kx fs m) (kx f)).getD false=if f∈fs then !(lookM m (kx f)).getD false else(lookM m (kx f)).getD false
 | [],m,_,_=>by simp[ZF9]
 | s::fs,m,hn,hi=>by
  have h2:=List.nodup_cons.1 hn;have ih:=ZKw fs (ZUV m (kx s)) h2.2 fun t ht=>hi t (List.mem_cons_of_mem _ ht);show(lookM (ZF9 kx fs (ZUV m (kx s))) (kx f)).getD false=_;rw[ih,ZSV];by_cases hs:s=f
  ·subst hs;rw[if_pos rfl,if_neg h2.1,if_pos (List.mem_cons_self ..)]
  ·have hne:¬ kx f=kx s:=fun e=>hs (hi s (List.mem_cons_self ..) e.symm);simp only[if_neg hne];by_cases hf:f∈fs
   ·rw[if_pos hf,if_pos (List.mem_cons_of_mem _ hf)]
   ·rw[if_neg hf,if_neg (fun h=>(List.mem_cons.1 h).elim (fun e=>hs e.symm) hf)]
def ZPw [DecidableEq α] (fac:α->List α) (lv:List α) (f:α):Bool:=decide ((lv.filter fun s=>decide (f∈fac s)).length % 2=1)
theorem ZUB (n:Nat):(!decide (n % 2=1))=decide ((n+1) % 2=1):=by
 rcases Nat.mod_two_eq_zero_or_one n with h|h
 ·rw[h,show(n+1) % 2=1 by omega];rfl
 ·rw[h,show(n+1) % 2=0 by omega];rfl
theorem ZKu [DecidableEq α] {kx:α->κ} {fac:α->List α} {lv:List α} {f:α} (hf:∀s∈lv,(fac s).Nodup) (hi:∀s∈lv,∀t∈fac s,kx t=kx f->t=f):∀n,n≤lv.length->(lookM (togL kx fac (lv.take n)) (kx f)).getD false=ZPw fac (lv.take n) f
 | 0,_=>by simp[togL,lookM,ZPw]
 | n+1,h=>by
  have hm:lv[n]∈lv:=List.getElem_mem _;have ih:=ZKu hf hi n (by omega);rw[ZKv (by omega),ZKw _ _ (hf _ hm) (hi _ hm),ih];unfold ZPw;rw[ZAP (by omega),List.filter_append,List.length_append];by_cases hq:f∈fac lv[n]
  ·rw[if_pos hq,List.filter_cons_of_pos (by simpa using hq)];exact ZUB _
  ·rw[if_neg hq,List.filter_cons_of_neg (by simpa using hq)];rfl
def setT (kx:α->κ) (lv:List α):List (κ × Bool):=lv.foldl (fun m s=>ZCH m (kx s) true) []
theorem ZHN {kx:α->κ} {lv:List α} {k:Nat} (h:k<lv.length):setT kx (lv.take (k+1))=ZCH (setT kx (lv.take k)) (kx lv[k]) true:=by
 unfold setT;rw[ZAP h,List.foldl_append];rfl
theorem ZKq [DecidableEq α] {kx:α->κ} {lv:List α} {f:α} (hi:∀s∈lv,kx s=kx f->s=f):∀n,n≤lv.length->(lookM (setT kx (lv.take n)) (kx f)).getD false=decide (f∈lv.take n)
 | 0,_=>by simp[setT,lookM]
 | n+1,h=>by
  have ih:=ZKq hi n (by omega);have et:lv.take (n+1)=lv.take n++[lv[n]]:=ZAP (by omega);rw[ZHN (by omega),ZCG];by_cases hk:kx f=kx lv[n]
  ·rw[if_pos hk];have:=hi _ (List.getElem_mem _) hk.symm;rw[decide_eq_true (by rw[et,this];exact List.mem_append_right _ (List.mem_singleton.2 rfl))];rfl
  ·rw[if_neg hk,ih];exact decide_eq_decide.2 (by rw[et,List.mem_append,List.mem_singleton];exact⟨Or.inl,fun q=>q.elim id fun e=>absurd (by rw[e]) hk⟩)
def ZS3 [DecidableEq α] (lv:List α) (f:α):Bool:=decide (f∈lv)
theorem ZSN [DecidableEq α] {kx:α->κ} {lv:List α} {f:α} (hi:∀s∈lv,kx s=kx f->s=f):(lookM (setT kx lv) (kx f)).getD false=ZS3 lv f:=by
 have h:=ZKq hi _ (Nat.le_refl _);rw[List.take_length] at h;exact h
theorem ZSU [DecidableEq α] {kx:α->κ} {fac:α->List α} {lv:List α} {f:α} (hf:∀s∈lv,(fac s).Nodup) (hi:∀s∈lv,∀t∈fac s,kx t=kx f->t=f):(lookM (togL kx fac lv) (kx f)).getD false=ZPw fac lv f:=by
 have h:=ZKu hf hi _ (Nat.le_refl _);rw[List.take_length] at h;exact h
theorem ZUM {V:Type} {m:List (κ × V)} {x:κ} {v:V} {p:κ × V} (h:p∈ZCH m x v):p.1=x\/p∈m:=by
 unfold ZCH at h;split at h
 ·obtain⟨q,hq,rfl⟩:=List.mem_map.1 h;split
  ·exact .inl rfl
  ·exact .inr hq
 ·rcases List.mem_append.1 h with h|h
  ·exact .inr h
  ·exact .inl (by rw[List.mem_singleton.1 h])
theorem ZP8 {V:Type} {m:List (κ × V)} {x:κ} {v:V} (h:(m.map (·.1)).Nodup):((ZCH m x v).map (·.1)).Nodup:=by
 unfold ZCH;split
 ·rw[List.map_map];have e:((fun p:κ × V=>p.1) ∘ fun p=>if p.1=x then(x,v) else p)=fun p=>p.1:=by
   funext p
   simp only[Function.comp_apply];split
   ·rename_i hp;exact hp.symm
   ·rfl
  rw[e];exact h
 ·rename_i hn;rw[List.map_append,List.nodup_append];refine⟨h,by simp,fun a ha c hc e=>hn ?_⟩;have hc:c=x:=by simpa using hc
  obtain⟨p,hp,hpe⟩:=List.mem_map.1 ha;unfold lookM;rw[Option.isSome_map,List.find?_isSome];exact⟨p,hp,by simp[hpe,e,hc]⟩
structure OkT {V:Type} (ok:κ->Prop) (m:List (κ × V)):Prop where
 ok:∀p∈m,ok p.1
 nd:(m.map (·.1)).Nodup
theorem OkT.nil {V:Type} {ok:κ->Prop}:OkT ok ([]:List (κ × V)):=⟨(fun p hp=>by cases hp),List.Pairwise.nil⟩
theorem OkT.put {V:Type} {ok:κ->Prop} {m:List (κ × V)} {x:κ} {v:V} (h:OkT ok m) (hx:ok x):OkT ok (ZCH m x v) where
 ok:=fun p hp=>by
  rcases ZUM hp with hp|hp
  ·rw[hp];exact hx
  ·exact h.ok p hp
 nd:=ZP8 h.nd
theorem OkT.foldl {V:Type} {ok:κ->Prop} {β:Type} {g:List (κ × V)->β->List (κ × V)} {l:List β} (hg:∀m,OkT ok m->∀x∈l,OkT ok (g m x)):∀ {m:List (κ × V)},OkT ok m->OkT ok (l.foldl g m):=by
 induction l with
 | nil=>exact fun h=>h
 | cons x l ih=>exact fun h=>ih (fun m hm y hy=>hg m hm y (List.mem_cons_of_mem _ hy)) (hg _ h x (List.mem_cons_self ..))
theorem OkT.togs {ok:κ->Prop} {kx:α->κ} {fs:List α} {m:List (κ × Bool)} (h:OkT ok m) (hf:∀f∈fs,ok (kx f)):OkT ok (ZF9 kx fs m):=OkT.foldl (fun _ hm x hx=>hm.put (hf x hx)) h
theorem OkT.togL {ok:κ->Prop} {kx:α->κ} {fac:α->List α} {lv:List α} (hf:∀s∈lv,∀f∈fac s,ok (kx f)):OkT ok (togL kx fac lv):=OkT.foldl (fun _ hm x hx=>hm.togs (hf x hx)) OkT.nil
theorem OkT.setT {ok:κ->Prop} {kx:α->κ} {lv:List α} (hf:∀s∈lv,ok (kx s)):OkT ok (setT kx lv):=OkT.foldl (fun _ hm x hx=>hm.put (hf x hx)) OkT.nil
end
end Go.Proofs.YtofkoleingbbpaaGreatDoor.C34
namespace Go.Proofs.YtofkoleingbbpaaGreatDoor
section
open Go.RowKit
open C34

variable {S:Prop}
def ZNY (l:Cx) (f:Vx->Int) (k:Nat) (prev lv:Cx):Bool:=lv.all (ZAg f (k:Int)) && (decide (k=0) || (ZCk l (k:Int) (ZF6 f (((2 ^ k:Nat):Int)-1))).all fun g=>ZPw (ZT k) lv g == ZS3 prev g)
def ZSe (l:Cx) (f:Vx->Int):Nat->Cx->List Cx->Bool
 | _,_,[]=>true
 | k,p,lv::L=>ZNY l f k p lv && ZSe l f (k+1) lv L
def ZUY (l:Cx) (f:Vx->Int) (L:List Cx):Int:=if ZSe l f 0 [] L=false then 18 else if((L.getD 0 []).length:Int).tmod 2=0 then 18 else 0
def ZDE (L:List Cx) (k:Nat):Cx:=if k=0 then[] else L.getD (k-1) []
theorem ZEI {L:List Cx} {k:Nat} (h:k<L.length):ZDE L (k+1)=L[k]:=by
 unfold ZDE;rw[if_neg (by omega),Nat.add_sub_cancel,ZF1 h]
theorem ZQk {l:Cx} {f:Vx->Int} {L:List Cx} {k:Nat} (h:k<L.length):ZSe l f k (ZDE L k) (L.drop k)=(ZNY l f k (ZDE L k) L[k] && ZSe l f (k+1) (ZDE L (k+1)) (L.drop (k+1))):=by
 rw[List.drop_eq_getElem_cons h,ZEI h];rfl
theorem ZMP {l:Cx}:∀ {L:List Cx} {k:Nat},ZQs l k L=0->∀j (h:j<L.length),ZIi l (k+j) none L[j]=0
 | [],k,_,j,h=>by simp at h
 | lv::L,k,hh,j,h=>by
  unfold ZQs at hh;by_cases h1:ZIi l k none lv≠0
  ·rw[if_pos h1] at hh;exact absurd hh h1
  ·rw[if_neg h1] at hh;cases j with
   | zero=>exact Classical.byContradiction h1
   | succ j =>
    have:=ZMP hh j (by simpa using h);rw[show k+(j+1)=k+1+j by omega];exact this
theorem ZG7 {l:Cx} {L:List Cx} (h:ZG6 l L=0):1≤L.length/\L.length≤8/\∀j (hj:j<L.length),∀s∈L[j],ZAC s=0/\s.length=j+1/\ZBm l s=true:=by
 unfold ZG6 at h;by_cases h1:L.length<1\/8<L.length
 ·rw[if_pos h1] at h;cases h
 ·rw[if_neg h1] at h;refine⟨by omega,by omega,fun j hj s hs=>?_⟩;have:=ZMP h j hj;rw[Nat.zero_add] at this;exact ZMQ this s hs
theorem ZDx:MapT Tryz.prog 120 9 4 (.bool false):=⟨Tryz.underlying120,fun w=>by kernel_rfl⟩
theorem optB (o:Option Bool) {b:Bool} (h:o.getD false=b):(o.map ZCT).getD (.bool false) = .bool b:=by cases o <;> (cases h;rfl)
end
end Go.Proofs.YtofkoleingbbpaaGreatDoor
