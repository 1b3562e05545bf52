/- Part 4 of the proof. -/
import Derived.Test.YtofkoleingbbpaaGreatDoorZd3
set_option linter.all false
set_option maxRecDepth 100000
set_option maxHeartbeats 64000000
namespace Go.Proofs.YtofkoleingbbpaaGreatDoor
section
open Go.RowKit
open L05 (plus hdI pivN rw')
theorem ZUH {rows:List (List Int)} {n:Nat} {c:Int} {i:Nat} (h1:n≤i) (h2:i<rows.length) (h3:c∈rw' rows i) (h4:∀k,n≤k->k<i->c∉rw' rows k):pivN rows n c=some i:=by
 unfold L05.pivN;rw[List.find?_range_eq_some];refine⟨by rw[decide_eq_true h1,decide_eq_true h3];rfl,List.mem_range.2 h2,fun j hj=>?_⟩;by_cases q:n≤j
 ·rw[decide_eq_false (h4 j q hj)];simp
 ·rw[decide_eq_false q];rfl
theorem ZUI {rows:List (List Int)} {n:Nat} {c:Int} (h4:∀k,n≤k->k<rows.length->c∉rw' rows k):pivN rows n c=none:=by
 cases h:pivN rows n c with
 | none=>rfl
 | some k =>
  obtain⟨q1,q2,q3⟩:=L05.pivN_some h;exact absurd q3 (h4 k q1 q2)
def pivI (rows:List (List Int)) (n:Nat) (c:Int):Int:=match pivN rows n c with
 | none=>-1
 | some k=>(k:Int)



theorem ZGV (x:List Int) (v:Int) (hl:x.length≤1000000):Fn Tryz.prog 138 [dS ZAQ x,dI v] (dB (decide (v∈x))):=by
 refine zE Tryz.func138 18 ?_;(repeat' (first|refine zS ?_|refine ZA fun Kx hK=>?_|(refine hK _ _ ?_;clear hK)|refine ZVp ?_))
 all_goals try exact xO
 (refine ZV4 (X:=Nat) (fun k=>[(5,dI (k:Int)),(4,dA),(6,dA),(7,dA),(8,dA),(9,dA),(10,dA),(11,dA),(12,dA),(13,dA),(14,dA),(15,dA),(16,dA),(17,dA)]) (fun k=>[]) (fun k=>x.length-k) (fun k=>k≤x.length/\v∉x.take k) 0 ?start ?frame0 ?objs0 ?round)
 case start=>exact⟨Nat.zero_le _,by simp⟩
 case frame0=>exact zFr
 case objs0=>rfl
 case round =>
  rintro k ⟨hk,hno⟩;dsimp only[ZH,z0,z1];by_cases hkl:k<x.length
  ·have hlt:(k:Int)<(x.length:Int):=by omega
   obtain⟨u,hu⟩:∃u,x[k]=u:=⟨_,rfl⟩;by_cases huv:u=v
   ·have hmem:v∈x:=by rw[<- huv,<- hu];exact List.getElem_mem hkl
    rw[decide_eq_true hmem];((repeat' (first|refine zS ?_|refine ZA fun Kx hK=>?_|(refine hK _ _ ?_;clear hK)|(apply zV;(focus ((first|(exact Zg (R:=RI) (_gR:=inferInstance) elI hkl hu (ZVh rfl) (ZVh rfl))|exact yG);all_goals infer_instance));exact zQ)|(apply ZB;exact oD;all_goals (intro h;try exact xD))|refine ZVr ?_|refine ZVs ?_|refine ZVp ?_|refine ZVz ?_|refine ZWC ?_));all_goals ((repeat clear hK);repeat clear Kx))
    all_goals try exact xO
    (refine⟨trivial,_,rfl,?_⟩;exact fD)
   ·((repeat' (first|refine zS ?_|refine ZA fun Kx hK=>?_|(refine hK _ _ ?_;clear hK)|(apply zV;(focus ((first|(exact Zg (R:=RI) (_gR:=inferInstance) elI hkl hu (ZVh rfl) (ZVh rfl))|exact yG);all_goals infer_instance));exact zQ)|(apply ZB;exact oD;all_goals (intro h;try exact xD))|refine ZVr ?_|refine ZVp ?_|refine ZVx ?_));all_goals ((repeat clear hK);repeat clear Kx))
    all_goals try exact xO
    (refine zNx (k+1) ?_;(try dsimp only))
    refine⟨hkl,fun q=>?_⟩;rw[List.take_add_one,List.getElem?_eq_getElem hkl,hu] at q;rcases List.mem_append.1 q with q|q
    ·exact hno q
    ·exact huv (List.mem_singleton.1 q).symm
  ·have hlt:¬ (k:Int)<(x.length:Int):=by omega
   obtain rfl:k=x.length:=by omega
   rw[List.take_length] at hno;((repeat' (first|refine zS ?_|refine ZA fun Kx hK=>?_|(refine hK _ _ ?_;clear hK)|(refine ZV0 ?_;clear hK)|(apply zV;exact yG;exact zQ)|(apply ZB;exact oD;all_goals (intro h;try exact xD))|refine ZVs ?_|refine ZV1 ?_));all_goals ((repeat clear hK);repeat clear Kx))
   all_goals try exact xO
   (refine⟨trivial,_,rfl,?_⟩;refine ZWL ?_)
   exact(decide_eq_false hno).symm
theorem ZNi (C:Int) (rows:List (List Int)) (c:Int) (hl:rows.length≤1000000) (h1:∀r∈rows,r.head?=some (hdI r)):Fn Tryz.prog 140 [dS Mat (C,rows),dI c] (dB (rows.any fun r=>decide (hdI r=c))):=by
 refine zE Tryz.func140 22 ?_;(repeat' (first|refine zS ?_|refine ZA fun Kx hK=>?_|(refine hK _ _ ?_;clear hK)|(apply zV;(focus ((first|(apply ZV3;exact oD;exact hD));all_goals infer_instance));exact zQ)|refine ZVp ?_))
 all_goals try exact xO
 (refine ZV4 (X:=Nat) (fun k=>[(5,dI (k:Int)),(4,dA),(6,dA),(7,dA),(8,dA),(9,dA),(10,dA),(11,dA),(12,dA),(13,dA),(14,dA),(15,dA),(16,dA),(17,dA),(18,dA),(19,dA),(20,dA),(21,dA)]) (fun k=>[]) (fun k=>rows.length-k) (fun k=>k≤rows.length/\∀r∈rows.take k,hdI r≠c) 0 ?start ?frame0 ?objs0 ?round)
 case start=>exact⟨Nat.zero_le _,by simp⟩
 case frame0=>exact zFr
 case objs0=>rfl
 case round =>
  rintro k ⟨hk,hno⟩;dsimp only[ZH,z0,z1];by_cases hkl:k<rows.length
  ·have hlt:(k:Int)<(rows.length:Int):=by omega
   obtain⟨r,hr⟩:∃r,rows[k]=r:=⟨_,rfl⟩;have hrm:r∈rows:=by rw[<- hr];exact List.getElem_mem hkl
   have q3:=h1 r hrm;obtain⟨u,hu⟩:∃u,hdI r=u:=⟨_,rfl⟩;rw[hu] at q3;have hl0:0<r.length:=by
    cases e:r with
    | nil=>rw[e] at q3;cases q3
    | cons a t=>simp
   have hlg:r[0]=u:=by
    have:r[0]?=some u:=by rw[<- List.head?_eq_getElem?];exact q3
    exact(List.getElem?_eq_some_iff.1 this).2
   by_cases huv:u=c
   ·have hmem:(rows.any fun r=>decide (hdI r=c))=true:=List.any_eq_true.2 ⟨r,hrm,by rw[hu];exact decide_eq_true huv⟩;rw[hmem];((repeat' (first|refine zS ?_|refine ZA fun Kx hK=>?_|(refine hK _ _ ?_;clear hK)|(apply zV;(focus ((first|(apply ZAB ZEj;exact ZVh rfl)|(exact Zg (R:=ZAQ) (_gR:=inferInstance) ZDj hkl hr (ZVh rfl) (ZVh rfl))|(exact Zg (R:=RI) (_gR:=inferInstance) (k:=0) elI hl0 hlg (ZVh rfl) ZV5)|exact yG);all_goals infer_instance));exact zQ)|(apply ZB;exact oD;all_goals (intro h;try exact xD))|refine ZVr ?_|refine ZVs ?_|refine ZVp ?_|refine ZVz ?_|refine ZWC ?_));all_goals ((repeat clear hK);repeat clear Kx))
    all_goals try exact xO
    (refine⟨trivial,_,rfl,?_⟩;exact fD)
   ·((repeat' (first|refine zS ?_|refine ZA fun Kx hK=>?_|(refine hK _ _ ?_;clear hK)|(apply zV;(focus ((first|(apply ZAB ZEj;exact ZVh rfl)|(exact Zg (R:=ZAQ) (_gR:=inferInstance) ZDj hkl hr (ZVh rfl) (ZVh rfl))|(exact Zg (R:=RI) (_gR:=inferInstance) (k:=0) elI hl0 hlg (ZVh rfl) ZV5)|exact yG);all_goals infer_instance));exact zQ)|(apply ZB;exact oD;all_goals (intro h;try exact xD))|refine ZVr ?_|refine ZVp ?_|refine ZVx ?_));all_goals ((repeat clear hK);repeat clear Kx))
    all_goals try exact xO
    (refine zNx (k+1) ?_;(try dsimp only))
    refine⟨hkl,fun s q=>?_⟩;rw[List.take_add_one,List.getElem?_eq_getElem hkl,hr] at q;rcases List.mem_append.1 q with q|q
    ·exact hno s q
    ·rw[List.mem_singleton.1 q,hu];exact huv
  ·have hlt:¬ (k:Int)<(rows.length:Int):=by omega
   obtain rfl:k=rows.length:=by omega
   rw[List.take_length] at hno;have hany:(rows.any fun r=>decide (hdI r=c))=false:=by
    rw[List.any_eq_false];intro r hr;simp only[decide_eq_true_eq];exact hno r hr
   ((repeat' (first|refine zS ?_|refine ZA fun Kx hK=>?_|(refine hK _ _ ?_;clear hK)|(refine ZV0 ?_;clear hK)|(apply zV;(focus ((first|(apply ZAB ZEj;exact ZVh rfl)|exact yG);all_goals infer_instance));exact zQ)|(apply ZB;exact oD;all_goals (intro h;try exact xD))|refine ZVs ?_|refine ZV1 ?_));all_goals ((repeat clear hK);repeat clear Kx))
   all_goals try exact xO
   (refine⟨trivial,_,rfl,?_⟩;refine ZWL ?_)
   exact hany.symm
theorem ZNm (rows:List (List Int)) (n:Nat) (c:Int) (hn:n≤rows.length) (hl:rows.length≤1000000) (h1:∀r∈rows,r.length≤1000000):Fn Tryz.prog 156 [dS (Arr ZAQ) rows,dI (n:Int),dI c] (dI (pivI rows n c)):=by
 unfold pivI;refine zE Tryz.func156 22 ?_;(repeat' (first|refine zS ?_|refine ZA fun Kx hK=>?_|(refine hK _ _ ?_;clear hK)|refine ZVp ?_))
 all_goals try exact xO
 (refine ZV4 (X:=Nat) (fun k=>[(7,dI (k:Int)),(6,dA),(9,dA),(10,dA),(11,dA),(12,dA),(13,dA),(14,dA),(15,dA),(16,dA),(17,dA),(18,dA),(19,dA),(20,dA),(21,dA)]) (fun k=>[]) (fun k=>rows.length-k) (fun k=>n≤k/\k≤rows.length/\∀j,n≤j->j<k->c∉rw' rows j) n ?start ?frame0 ?objs0 ?round)
 case start=>exact⟨Nat.le_refl _,hn,fun j q1 q2=>absurd q1 (Nat.not_le.2 q2)⟩
 case frame0=>exact zFr
 case objs0=>rfl
 case round =>
  rintro k ⟨hnk,hk,hno⟩;dsimp only[ZH,z0,z1];by_cases hkl:k<rows.length
  ·have hlt:(k:Int)<(rows.length:Int):=by omega
   obtain⟨r,hr⟩:∃r,rows[k]=r:=⟨_,rfl⟩;have hrm:r∈rows:=by rw[<- hr];exact List.getElem_mem hkl
   have hrw:rw' rows k=r:=by rw[L05.rw_get hkl];exact hr
   have hc:=ZGV r c (h1 r hrm);by_cases hcr:c∈r
   ·rw[decide_eq_true hcr] at hc;rw[ZUH hnk hkl (hrw ▸ hcr) hno];((repeat' (first|refine zS ?_|refine ZA fun Kx hK=>?_|(refine hK _ _ ?_;clear hK)|(apply zV;(focus ((first|(exact Zg (R:=ZAQ) (_gR:=inferInstance) ZDj hkl hr (ZVh rfl) (ZVh rfl))|(apply ZVm (hc) Tryz.call138;exact aD)|exact yG);all_goals infer_instance));exact zQ)|(apply Zf;exact oD;(with_reducible rfl))|(apply ZB;exact oD;all_goals (intro h;try exact xD))|refine ZVr ?_|refine ZVs ?_|refine ZVp ?_|refine ZVz ?_|refine ZWC ?_));all_goals ((repeat clear hK);repeat clear Kx))
    all_goals try exact xO
    (refine⟨trivial,_,rfl,?_⟩;exact fD)
   ·rw[decide_eq_false hcr] at hc;((repeat' (first|refine zS ?_|refine ZA fun Kx hK=>?_|(refine hK _ _ ?_;clear hK)|(apply zV;(focus ((first|(exact Zg (R:=ZAQ) (_gR:=inferInstance) ZDj hkl hr (ZVh rfl) (ZVh rfl))|(apply ZVm (hc) Tryz.call138;exact aD)|exact yG);all_goals infer_instance));exact zQ)|(apply ZQ;exact oD;(with_reducible rfl))|(apply ZB;exact oD;all_goals (intro h;try exact xD))|refine ZVr ?_|refine ZVp ?_|refine ZVx ?_));all_goals ((repeat clear hK);repeat clear Kx))
    all_goals try exact xO
    (refine zNx (k+1) ?_;(try dsimp only))
    refine⟨by omega,hkl,fun j q1 q2=>?_⟩;by_cases e:j=k
    ·rw[e,hrw];exact hcr
    ·exact hno j q1 (by omega)
  ·have hlt:¬ (k:Int)<(rows.length:Int):=by omega
   obtain rfl:k=rows.length:=by omega
   ((repeat' (first|refine zS ?_|refine ZA fun Kx hK=>?_|(refine hK _ _ ?_;clear hK)|(refine ZV0 ?_;clear hK)|(apply zV;exact yG;exact zQ)|(apply ZB;exact oD;all_goals (intro h;try exact xD))|refine ZVs ?_|refine ZV1 ?_));all_goals ((repeat clear hK);repeat clear Kx))
   all_goals try exact xO
   (refine⟨trivial,_,rfl,?_⟩;refine ZWH ?_)
   rw[ZUI hno]
theorem ZGz {x:List Int} {i:Nat} (h:i<x.length) {u:Int} (hu:x[i]=u):x.drop i=u::x.drop (i+1):=by rw[<- hu];exact List.drop_eq_getElem_cons h
theorem ZQJ (a b:List Int) (hl:a.length+b.length≤1000000):Fn Tryz.prog 157 [dS ZAQ a,dS ZAQ b] (dS ZAQ (plus a b)):=by
 refine zE Tryz.func157 77 ?_;(repeat' (first|refine zS ?_|refine ZA fun Kx hK=>?_|(refine hK _ _ ?_;clear hK)|refine ZVp ?_))
 all_goals try exact xO
 refine Zn 3 RI ?_;(refine ZV4 (X:=Value × List Int × Nat × Nat) (fun x=>[(6,dI (x.2.2.1:Int)),(7,dI (x.2.2.2:Int)),(5,dX x.1),(8,dA),(9,dA),(10,dA),(11,dA),(12,dA),(13,dA),(14,dA),(15,dA),(16,dA),(17,dA),(18,dA),(19,dA),(20,dA),(21,dA),(22,dA),(23,dA),(24,dA),(25,dA),(26,dA),(27,dA),(28,dA),(29,dA),(30,dA),(31,dA),(32,dA),(33,dA),(34,dA),(35,dA),(36,dA),(37,dA),(38,dA),(39,dA),(40,dA),(41,dA),(42,dA),(43,dA),(44,dA),(45,dA),(46,dA),(47,dA),(48,dA),(49,dA),(50,dA),(51,dA),(52,dA),(53,dA),(54,dA),(55,dA),(56,dA),(57,dA),(58,dA),(59,dA),(60,dA),(61,dA),(62,dA),(63,dA),(64,dA),(65,dA),(66,dA),(67,dA),(68,dA),(69,dA),(70,dA),(71,dA),(72,dA),(73,dA),(74,dA),(75,dA)]) (fun x=>[Zk x.1 3 RI x.2.1]) (fun x=>(a.length-x.2.2.1)+(b.length-x.2.2.2)) (fun x=>x.2.2.1≤a.length/\x.2.2.2≤b.length/\x.2.1.length+(a.length-x.2.2.1)+(b.length-x.2.2.2)≤a.length+b.length/\x.2.1++plus (a.drop x.2.2.1) (b.drop x.2.2.2)=plus a b) (.slice none 0 0,[],0,0) ?start ?frame0 ?objs0 ?round)
 case start=>exact⟨Nat.zero_le _,Nat.zero_le _,by simp,rfl⟩
 case frame0=>exact zFr
 case objs0=>rfl
 case round =>
  rintro⟨vo,out,i,k⟩ ⟨hi,hk,hn,hE⟩;simp only at hi hk hn hE;dsimp only[ZH,z0,z1];have h8:(out.length+1)*8≤140737488355328:=by omega
  by_cases hil:i<a.length
  ·have hiI:(i:Int)<(a.length:Int):=by omega
   have hiN:¬ (i:Int)=(a.length:Int):=by omega
   obtain⟨u,hu⟩:∃u,a[i]=u:=⟨_,rfl⟩;rw[ZGz hil hu] at hE;by_cases hkl:k<b.length
   ·have hkI:(k:Int)<(b.length:Int):=by omega
    have hkN:¬ (k:Int)=(b.length:Int):=by omega
    obtain⟨v,hv⟩:∃v,b[k]=v:=⟨_,rfl⟩;rw[ZGz hkl hv,plus] at hE;by_cases huv:u<v
    ·rw[if_pos huv,<- ZGz hkl hv] at hE;((repeat' (first|refine zS ?_|refine WD.nil ?_|refine ZA fun Kx hK=>?_|(refine hK _ _ ?_;clear hK)|(apply ZWB;kernel_rfl;kernel_rfl)|((first|apply Zq|apply Zl);exact eD;exact ZVh rfl;exact oD;(intro _;exact hD);(exact(by simp));(exact(by simp));(first|exact⟨by decide,by decide⟩|skip);decide;exact lD;(intro _;dsimp only[ZC,z0,z1]);all_goals (try infer_instance))|((first|apply ZF|apply WD.op);(focus (first|exact wN|(apply ZVt;exact wY;((first|(exact Zg (R:=RI) (_gR:=inferInstance) elI hil hu (ZVh rfl) (ZVh rfl))|(exact Zg (R:=RI) (_gR:=inferInstance) elI hkl hv (ZVh rfl) (ZVh rfl))|exact yG|fail);all_goals infer_instance))));dsimp only[ZC,z0,z1])|((first|refine ZM rfl rfl rfl (fun h=>?_) (fun h=>?_)|refine ZL rfl rfl rfl (fun h=>?_) (fun h=>?_)|refine ZK rfl rfl rfl (fun h=>?_) (fun h=>?_)|refine Za rfl rfl rfl (fun h=>?_) (fun h=>?_)|refine ZX rfl rfl rfl (fun h=>?_) (fun h=>?_)|refine ZV rfl rfl rfl (fun h=>?_) (fun h=>?_)) <;> (first|(exfalso;first|omega|contradiction)|(dsimp only[z0,z1])))|(apply Zf;exact oD;(with_reducible rfl))|(apply ZB;exact oD;all_goals (intro h;try exact xD))|refine ZVr ?_|refine ZVp ?_|refine ZVx ?_|refine ZWc ?_));all_goals ((repeat clear hK);repeat clear Kx))
     all_goals try exact xO
     (refine zNx (_,out++[u],i+1,k) ?_;(try dsimp only))
     exact⟨hil,hk,by simp;omega,by rw[List.append_assoc];exact hE⟩
    ·rw[if_neg huv] at hE;by_cases hvu:v<u
     ·rw[if_pos hvu,<- ZGz hil hu] at hE;((repeat' (first|refine zS ?_|refine WD.nil ?_|refine ZA fun Kx hK=>?_|(refine hK _ _ ?_;clear hK)|(apply ZWB;kernel_rfl;kernel_rfl)|((first|apply Zq|apply Zl);exact eD;exact ZVh rfl;exact oD;(intro _;exact hD);(exact(by simp));(exact(by simp));(first|exact⟨by decide,by decide⟩|skip);decide;exact lD;(intro _;dsimp only[ZC,z0,z1]);all_goals (try infer_instance))|((first|apply ZF|apply WD.op);(focus (first|exact wN|(apply ZVt;exact wY;((first|(exact Zg (R:=RI) (_gR:=inferInstance) elI hil hu (ZVh rfl) (ZVh rfl))|(exact Zg (R:=RI) (_gR:=inferInstance) elI hkl hv (ZVh rfl) (ZVh rfl))|exact yG|fail);all_goals infer_instance))));dsimp only[ZC,z0,z1])|((first|refine ZM rfl rfl rfl (fun h=>?_) (fun h=>?_)|refine ZL rfl rfl rfl (fun h=>?_) (fun h=>?_)|refine ZK rfl rfl rfl (fun h=>?_) (fun h=>?_)|refine Za rfl rfl rfl (fun h=>?_) (fun h=>?_)|refine ZX rfl rfl rfl (fun h=>?_) (fun h=>?_)|refine ZV rfl rfl rfl (fun h=>?_) (fun h=>?_)) <;> (first|(exfalso;first|omega|contradiction)|(dsimp only[z0,z1])))|(apply Zf;exact oD;(with_reducible rfl))|(apply ZB;exact oD;all_goals (intro h;try exact xD))|refine ZVr ?_|refine ZVp ?_|refine ZVx ?_|refine ZWc ?_));all_goals ((repeat clear hK);repeat clear Kx))
      all_goals try exact xO
      (refine zNx (_,out++[v],i,k+1) ?_;(try dsimp only))
      exact⟨hi,hkl,by simp;omega,by rw[List.append_assoc];exact hE⟩
     ·rw[if_neg hvu] at hE;((repeat' (first|refine zS ?_|refine WD.nil ?_|refine ZA fun Kx hK=>?_|(refine hK _ _ ?_;clear hK)|(apply ZWB;kernel_rfl;kernel_rfl)|((first|apply ZF|apply WD.op);(focus (first|exact wN|(apply ZVt;exact wY;((first|(exact Zg (R:=RI) (_gR:=inferInstance) elI hil hu (ZVh rfl) (ZVh rfl))|(exact Zg (R:=RI) (_gR:=inferInstance) elI hkl hv (ZVh rfl) (ZVh rfl))|exact yG|fail);all_goals infer_instance))));dsimp only[ZC,z0,z1])|((first|refine ZM rfl rfl rfl (fun h=>?_) (fun h=>?_)|refine ZL rfl rfl rfl (fun h=>?_) (fun h=>?_)|refine ZK rfl rfl rfl (fun h=>?_) (fun h=>?_)|refine Za rfl rfl rfl (fun h=>?_) (fun h=>?_)|refine ZX rfl rfl rfl (fun h=>?_) (fun h=>?_)|refine ZV rfl rfl rfl (fun h=>?_) (fun h=>?_)) <;> (first|(exfalso;first|omega|contradiction)|(dsimp only[z0,z1])))|(apply Zf;exact oD;(with_reducible rfl))|(apply ZB;exact oD;all_goals (intro h;try exact xD))|refine ZVr ?_|refine ZVp ?_|refine ZVx ?_|refine ZWc ?_));all_goals ((repeat clear hK);repeat clear Kx))
      all_goals try exact xO
      (refine zNx (_,out,i+1,k+1) ?_;(try dsimp only))
      exact⟨hil,hkl,by omega,hE⟩
   ·have hkI:¬ (k:Int)<(b.length:Int):=by omega
    obtain rfl:k=b.length:=by omega
    rw[List.drop_length,L05.plus_nil] at hE;((repeat' (first |  (apply WD.op;(focus (apply SYG.no;exact ZDJ rfl rfl rfl));dsimp only[ZC,z0,z1])|((first|apply ZVi|apply ZVl);exact yF;dsimp only[ZC,z0,z1])|refine ZVj ?_|refine WD.nil ?_|refine ZA fun Kx hK=>?_|(refine hK _ _ ?_;clear hK)|refine ZVk ?_|(apply ZWB;kernel_rfl;kernel_rfl)|((first|apply Zq|apply Zl);exact eD;exact ZVh rfl;exact oD;(intro _;exact hD);(exact(by simp));(exact(by simp));(first|exact⟨by decide,by decide⟩|skip);decide;exact lD;(intro _;dsimp only[ZC,z0,z1]);all_goals (try infer_instance))|((first|apply ZF|apply WD.op);(focus (first|exact wN|(apply ZVt;exact wY;((first|(exact Zg (R:=RI) (_gR:=inferInstance) elI hil hu (ZVh rfl) (ZVh rfl))|((first|apply ZVo|apply ZVn|apply ZVq|apply ZV7) <;> exact oD)|((first|apply ZV2) <;> first|exact oD|omega)|(apply ZVu;exact oD;exact nD;exact uD)|(apply ZU;exact oD;(with_reducible rfl);exact oD)|fail);all_goals infer_instance))));dsimp only[ZC,z0,z1])|((first|refine ZM rfl rfl rfl (fun h=>?_) (fun h=>?_)|refine ZL rfl rfl rfl (fun h=>?_) (fun h=>?_)|refine ZK rfl rfl rfl (fun h=>?_) (fun h=>?_)|refine Za rfl rfl rfl (fun h=>?_) (fun h=>?_)|refine ZX rfl rfl rfl (fun h=>?_) (fun h=>?_)|refine ZV rfl rfl rfl (fun h=>?_) (fun h=>?_)) <;> (first|(exfalso;first|omega|contradiction)|(dsimp only[z0,z1])))|(apply Zf;exact oD;(with_reducible rfl))|refine ZVr ?_|refine ZVp ?_|refine ZVx ?_|refine ZWc ?_));all_goals ((repeat clear hK);repeat clear Kx))
    all_goals try exact xO
    (refine zNx (_,out++[u],i+1,b.length) ?_;(try dsimp only))
    exact⟨hil,hk,by simp;omega,by rw[List.drop_length,L05.plus_nil,List.append_assoc];exact hE⟩
  ·have hiI:¬ (i:Int)<(a.length:Int):=by omega
   obtain rfl:i=a.length:=by omega
   rw[List.drop_length,L05.nil_plus] at hE;by_cases hkl:k<b.length
   ·have hkI:(k:Int)<(b.length:Int):=by omega
    have hkN:¬ (k:Int)=(b.length:Int):=by omega
    obtain⟨v,hv⟩:∃v,b[k]=v:=⟨_,rfl⟩;rw[ZGz hkl hv] at hE;((repeat' (first|refine zS ?_|refine WD.nil ?_|refine ZA fun Kx hK=>?_|(refine hK _ _ ?_;clear hK)|(apply ZWB;kernel_rfl;kernel_rfl)|((first|apply Zq|apply Zl);exact eD;exact ZVh rfl;exact oD;(intro _;exact hD);(exact(by simp));(exact(by simp));(first|exact⟨by decide,by decide⟩|skip);decide;exact lD;(intro _;dsimp only[ZC,z0,z1]);all_goals (try infer_instance))|((first|apply ZF|apply WD.op);(focus (first|exact wN|(apply ZVt;exact wY;((first|(exact Zg (R:=RI) (_gR:=inferInstance) elI hkl hv (ZVh rfl) (ZVh rfl))|exact yG|fail);all_goals infer_instance))));dsimp only[ZC,z0,z1])|((first|refine ZM rfl rfl rfl (fun h=>?_) (fun h=>?_)|refine ZL rfl rfl rfl (fun h=>?_) (fun h=>?_)|refine ZK rfl rfl rfl (fun h=>?_) (fun h=>?_)|refine Za rfl rfl rfl (fun h=>?_) (fun h=>?_)|refine ZX rfl rfl rfl (fun h=>?_) (fun h=>?_)|refine ZV rfl rfl rfl (fun h=>?_) (fun h=>?_)) <;> (first|(exfalso;first|omega|contradiction)|(dsimp only[z0,z1])))|(apply Zf;exact oD;(with_reducible rfl))|(apply ZQ;exact oD;(with_reducible rfl))|(apply ZB;exact oD;all_goals (intro h;try exact xD))|refine ZVr ?_|refine ZVp ?_|refine ZVx ?_|refine ZWc ?_));all_goals ((repeat clear hK);repeat clear Kx))
    all_goals try exact xO
    (refine zNx (_,out++[v],a.length,k+1) ?_;(try dsimp only))
    exact⟨hi,hkl,by simp;omega,by rw[List.drop_length,L05.nil_plus,List.append_assoc];exact hE⟩
   ·have hkI:¬ (k:Int)<(b.length:Int):=by omega
    obtain rfl:k=b.length:=by omega
    rw[List.drop_length,List.append_nil] at hE;subst hE;((repeat' (first|refine zS ?_|refine ZA fun Kx hK=>?_|(refine hK _ _ ?_;clear hK)|(refine ZV0 ?_;clear hK)|((first|apply ZF|apply WD.op);(focus (first|exact wN|(apply ZVt;exact wY;((first|exact yG|fail);all_goals infer_instance))));dsimp only[ZC,z0,z1])|((first|refine ZM rfl rfl rfl (fun h=>?_) (fun h=>?_)|refine ZL rfl rfl rfl (fun h=>?_) (fun h=>?_)|refine ZK rfl rfl rfl (fun h=>?_) (fun h=>?_)|refine Za rfl rfl rfl (fun h=>?_) (fun h=>?_)|refine ZX rfl rfl rfl (fun h=>?_) (fun h=>?_)|refine ZV rfl rfl rfl (fun h=>?_) (fun h=>?_)) <;> (first|(exfalso;first|omega|contradiction)|(dsimp only[z0,z1])))|(apply ZB;exact oD;all_goals (intro h;try exact xD))|refine ZVs ?_|refine ZV1 ?_));all_goals ((repeat clear hK);repeat clear Kx))
    all_goals try exact xO
    (refine⟨trivial,_,rfl,?_⟩;exact fD)
end
section
open Go.RowKit
open L05 (plus hdI pivN rw' swapI ZBt stepR ZSG echR)
namespace L05
theorem Span.pos {W:List (List Int)} (hW:AllAsc W) (hl:∀r∈W,Pos r) {v:List Int} (h:Span W v):Pos v:=by
 induction h with
 | zero=>intro x hx;cases hx
 | add hr h ih=>exact ZE8 (hW _ hr) (h.asc hW) (hl _ hr) ih
def ZWh (R:List (List Int)) (n:Nat) (c:Int) (j:Nat):List Int:=if j≠n/\c∈rw' R j then L05.plus (rw' R j) (rw' R n) else rw' R j
def ZK6 (R:List (List Int)) (n:Nat) (c:Int) (i:Nat):List (List Int):=(List.range R.length).map fun j=>if j<i then ZWh R n c j else rw' R j
theorem clrN_len (R:List (List Int)) (n:Nat) (c:Int) (i:Nat):(ZK6 R n c i).length=R.length:=by simp[ZK6]
theorem ZWV {R:List (List Int)} {n:Nat} {c:Int} {i j:Nat} (hj:j<(ZK6 R n c i).length):(ZK6 R n c i)[j]=if j<i then ZWh R n c j else rw' R j:=by simp[ZK6]
theorem clrN_zero (R:List (List Int)) (n:Nat) (c:Int):ZK6 R n c 0=R:=by
 apply List.ext_getElem (clrN_len _ _ _ _);intro j h1 h2;rw[ZWV,if_neg (by omega),rw_get h2]
theorem clrN_end (R:List (List Int)) (n:Nat) (c:Int):ZK6 R n c R.length=ZBt R n c:=by
 apply List.ext_getElem (by rw[clrN_len,ZJ0]);intro j h1 h2;have h3:=h1;rw[clrN_len] at h3;rw[ZWV,if_pos h3,<- rw_get h2,ZO6 h3];rfl
theorem clrN_get {R:List (List Int)} {n:Nat} {c:Int} {i j:Nat} (hij:i≤j) (hj:j<(ZK6 R n c i).length):(ZK6 R n c i)[j]=rw' R j:=by
 rw[ZWV,if_neg (by omega)]
theorem clrV_own {R:List (List Int)} {n:Nat} {c:Int}:ZWh R n c n=rw' R n:=if_neg fun q=>q.1 rfl
theorem clrN_own {R:List (List Int)} {n:Nat} {c:Int} {i:Nat} (hj:n<(ZK6 R n c i).length):(ZK6 R n c i)[n]=rw' R n:=by
 rw[ZWV];split
 ·exact clrV_own
 ·rfl
theorem clrN_set {R:List (List Int)} {n:Nat} {c:Int} {i:Nat}:(ZK6 R n c i).set i (ZWh R n c i)=ZK6 R n c (i+1):=by
 apply List.ext_getElem (by rw[List.length_set,clrN_len,clrN_len]);intro j h1 h2;rw[List.getElem_set,ZWV,ZWV];by_cases h:i=j
 ·rw[if_pos h,h,if_pos (by omega)]
 ·rw[if_neg h];by_cases h3:j<i
  ·rw[if_pos h3,if_pos (by omega)]
  ·rw[if_neg h3,if_neg (by omega)]
theorem clrN_same {R:List (List Int)} {n:Nat} {c:Int} {i:Nat} (h:ZWh R n c i=rw' R i):ZK6 R n c (i+1)=ZK6 R n c i:=by
 apply List.ext_getElem (by rw[clrN_len,clrN_len]);intro j h1 h2;rw[ZWV,ZWV];by_cases h3:j<i
 ·rw[if_pos h3,if_pos (by omega)]
 ·rw[if_neg h3];by_cases h4:j=i
  ·rw[if_pos (by omega),h4,h]
  ·rw[if_neg (by omega)]
theorem ZWd (s:List (List Int) × Nat) (c:Nat):(stepR s c).1.length=s.1.length:=by
 unfold stepR;split
 ·rfl
 ·simp only[ZJ0,swap_len]
theorem redR_len (W:List (List Int)):∀C:Nat,(ZSG W C).1.length=W.length
 | 0=>rfl
 | C+1=>by rw[redR_succ,ZWd,redR_len W C]
end L05
open L05 (ZK6 ZWh)
section
variable {P:Program} {ops:Array Oper} {hp:List HObj} {fr:List Dat} {dst:Option Tmp} {ty:TypeId} {ps:String} {af:Array Edge} {g:Option (Nat × Bool)} {T e':TypeId} {v:Value} {α:Type} {R:Rel α} {xs:List α}
theorem ZCx {_gR:Good R} {x:Operand} {k:Nat} {y:α} (T':TyI P T 1 false) (hx:OpD fr x (dX (ZBO v k))) (hm:Zk v e' R xs∈hp) (hk:k<xs.length) (hy:xs[k]=y) :
  SY P ops hp ⟨dst,.load T x,ty,ps,af,g⟩ fr (dS R y):=hy ▸ ZGD T' hx hm hk
theorem ZRC {x y:Operand} {l:Nat} {t e:TypeId} {bytes:Nat} {z:Value} {ag:Bool} (E:ElT P t e 1 z bytes ag) {_gR:Good R} (hl:l≤xs.length) (hx:OpD fr x (dS (Arr R) xs)) (hy:OpD fr y (dI (l:Int))):SY P ops hp ⟨dst,.slice t x none (some y) none,ty,ps,af,g⟩ fr (dS (Arr R) (xs.take l)):=by
 have:=ZGe (P:=P) (ops:=ops) (hp:=hp) (dst:=dst) (ty:=ty) (ps:=ps) (af:=af) (g:=g) (_gR:=_gR) E hx BndD.no (ZCt hy rfl) (Nat.zero_le _) hl;rwa[List.drop_zero,Nat.sub_zero] at this
theorem ZT3 (n:Int) (w:World):(Instr.build 105 #[(0,.int .i64 n)]).run Tryz.prog w = .ok (.agg #[.int .i64 n,.slice none 0 0]) w:=by go_simp
theorem ZLH {x:Operand} {n:Int} (hx:OpD fr x (dI n)):SY Tryz.prog ops hp ⟨dst,.build 105 #[(0,x)],ty,ps,af,g⟩ fr (ZEN [dI n,dX (.slice none 0 0)]):=ZWK fun {I w a} ho=>by
 have h1:a.eval x = .int .i64 n:=hx.get (by simp[Op.operands]) ho;refine⟨.agg #[.int .i64 n,.slice none 0 0],?_,[.int .i64 n,.slice none 0 0],rfl,rfl,fun c hc=>?_,fun k c e hc he=>?_⟩
 ·unfold execOp;simp only[List.map_toArray,List.map_cons,List.map_nil,h1,Sem.run_bind,ZT3,Result.andThen_ok,Sem.run_pure]
 ·simp at hc;rcases hc with rfl|rfl <;> rfl
 ·match k,hc,he with
  | 0,hc,he=>cases hc;cases he;rfl
  | 1,hc,he=>cases hc;cases he;rfl
end



theorem ZSJ (C:Nat) (W:List (List Int)) (hC:C≤4097) (hn:W.length≤4096) (h1:L05.AllAsc W) (h2:∀r∈W,L05.Low (C:Int) r) (h3:∀r∈W,L05.Pos r) :
  Fn Tryz.prog 139 [dS Mat ((C:Int),W)] (dS Mat ((C:Int),echR W C)):=by
 refine ZHo ZHn Tryz.func139 rfl rfl ?_
 -- @kinds ref05.Reduced
 simp only[Tryz.ntmps139,List.length_cons,List.length_nil,Nat.reduceAdd,Nat.reduceSub,List.replicate_succ,List.replicate_zero,List.cons_append,List.nil_append];refine Zn 23 ZAQ ?_;have h0l:(([]:List (List Int)).length+W.length)*24≤140737488355328:=by simp;omega
 (repeat' (first|(apply zV;exact yF;exact zQ)|refine ZVj ?_|refine ZA fun Kx hK=>?_|(refine hK _ _ ?_;clear hK)|refine ZVk ?_ |  (refine ZWF (dst:=some 2) ZN2 (Zj rfl rfl) fun b2=>?_;dsimp only[ZC,z0,z1])|((apply(ZWP (List.Perm.swap _ _ _));(first|apply ZWW|apply ZWX);exact eD;exact ZVh rfl;exact oD;decide;exact lD;(intro _;dsimp only[ZC,z0,z1]);all_goals (try infer_instance)))|((first|apply ZF|apply WD.op);(focus (first|exact wN|(apply ZVt;exact wY;((first|(apply ZAB ZEj;exact ZVh rfl)|(apply Z9 ZEj;exact ZVh rfl)|(apply ZV3;exact oD;exact hD)|fail);all_goals infer_instance))));dsimp only[ZC,z0,z1])|refine ZVp ?_))
 all_goals try exact xO
 rename_i v0 _ _;rw[List.nil_append];(refine ZV4 (X:=Nat × Value × List (List Int) × Nat) (fun x=>[(5,dI (x.1:Int)),(4,dI (x.2.2.2:Int)),(3,dX x.2.1),(6,dA),(7,dA),(13,dA),(14,dA),(15,dA),(16,dA),(17,dA),(18,dA),(19,dA),(20,dA),(21,dA),(22,dA),(23,dA),(24,dA),(25,dA),(26,dA),(27,dA),(28,dA),(29,dA),(30,dA),(31,dA),(32,dA),(33,dA),(34,dA),(35,dA),(36,dA),(37,dA),(38,dA),(39,dA),(40,dA),(41,dA),(42,dA),(43,dA),(44,dA),(45,dA),(46,dA),(47,dA),(48,dA),(49,dA),(50,dA),(51,dA),(52,dA),(53,dA),(54,dA),(55,dA),(56,dA),(57,dA),(58,dA),(59,dA),(60,dA),(61,dA),(62,dA),(63,dA),(64,dA),(65,dA),(66,dA),(67,dA),(68,dA),(69,dA)]) (fun x=>([Zk x.2.1 23 ZAQ x.2.2.1,Zm b2 105 2 true (dX (.agg #[.int .i64 0,.slice none 0 0]))])) (fun x=>C-x.1) (fun x=>x.1≤C/\ZSG W x.1=(x.2.2.1,x.2.2.2)) (0,v0,W,0) ?start ?frame0 ?objs0 ?round)
 case start=>exact⟨Nat.zero_le _,rfl⟩
 case frame0=>exact zFr
 case objs0=>rfl
 case round =>
  rintro⟨c,v,rows,n⟩ ⟨hc,hE⟩;simp only at hc hE;dsimp only[ZH,z0,z1];have hR:=L05.RInv.all h1 h3 c;have hlen:=L05.redR_len W c;rw[hE] at hR hlen;simp only at hlen;have hrl:∀r∈rows,r.length≤C:=fun r hr=>ZAu (n:=C) (hR.asc r hr) fun x hx=>⟨L05.Span.pos h1 h3 (hR.sp1 r hr) x hx,L05.Span.low h1 h2 (hR.sp1 r hr) x hx⟩;have hnl:n≤rows.length:=hR.le;by_cases hcl:c<C
  ·have hcI:(c:Int)<(C:Int):=by omega
   have hpv:=ZNm rows n (c:Int) hnl (by omega) fun r hr=>by have:=hrl r hr;omega
   have hnx:=L05.redR_succ W c;rw[hE] at hnx;unfold L05.stepR at hnx;simp only at hnx;unfold pivI at hpv;cases hp:pivN rows n (c:Int) with
   | none =>
    rw[hp] at hpv hnx;simp only at hpv hnx;have hm1:(-1:Int)<0:=by omega
    ((repeat' (first|refine zS ?_|refine ZA fun Kx hK=>?_|(refine hK _ _ ?_;clear hK)|(refine ZV0 ?_;clear hK)|((first|apply ZF|apply WD.op);(focus (first|exact wN|(apply ZVt;exact wY;((first|(apply Z9 ZEj;exact ZVh rfl)|(apply ZL1 (hpv) ZOt Tryz.call156;exact bD)|exact yG|fail);all_goals infer_instance))));dsimp only[ZC,z0,z1])|(apply ZB;exact oD;all_goals (intro h;try exact xD))|refine ZVr ?_|refine ZV1 ?_|refine ZVp ?_|refine ZVx ?_));all_goals ((repeat clear hK);repeat clear Kx))
    all_goals try exact xO
    (refine zNx (c+1,v,rows,n) ?_;(try dsimp only))
    exact⟨hcl,hnx⟩
   | some k =>
    rw[hp] at hpv hnx;simp only at hpv hnx;obtain⟨p1,p2,p3⟩:=L05.pivN_some hp;have hk0:¬ (k:Int)<0:=by omega
    have hnl2:n<rows.length:=by omega
    obtain⟨rk,hrk⟩:∃r,rows[k]=r:=⟨_,rfl⟩;obtain⟨rn,hrn⟩:∃r,rows[n]=r:=⟨_,rfl⟩;have hsw:(rows.set n rk).set k rn=swapI rows n k:=by
     unfold L05.swapI;rw[L05.rw_get p2,L05.rw_get hnl2,hrk,hrn]
    have hk2:k<(rows.set n rk).length:=by rw[List.length_set];exact p2
    have hsl:=L05.swap_len rows n k;have hsm:∀j,j<(swapI rows n k).length->(rw' (swapI rows n k) j).length≤C:=fun j hj=>by
     rw[hsl] at hj;rw[L05.swap_get hj];split
     ·rw[L05.rw_get hnl2];exact hrl _ (List.getElem_mem _)
     ·split
      ·rw[L05.rw_get p2];exact hrl _ (List.getElem_mem _)
      ·rw[L05.rw_get hj];exact hrl _ (List.getElem_mem _)
    (repeat' (first |  (refine WC.drawK (fun hp'=>Zk v 23 ZAQ rows∈hp') 14 2 [6,7,10,11,12] [13] [(2,false),(3,false),(0,false),(1,false),(4,false),(5,false),(6,false),(7,false),(8,false),(9,false),(10,false),(11,false),(12,false),(13,true)] [true,true,true,true,true,true,true,true,true,true,true,true,true,true,false,false] (by kernel_rfl) (by kernel_rfl) (by kernel_rfl) rfl (mAt 0 rfl) ?_) |  (first|refine WA.one (S:=[true,true,true,true,true,true,true,true,true,true,true,true,true,true,false,false]) (i:=14) (by kernel_rfl) rfl ?_|refine WA.one (S:=[true,true,true,true,true,true,true,true,true,true,true,true,true,true,true,false]) (i:=15) (by kernel_rfl) rfl ?_|refine WA.nil (S:=[true,true,true,true,true,true,true,true,true,true,true,true,true,true,true,true]) (by kernel_rfl) ?_) |  (refine ThenA.n ?_;dsimp only[z0,z1]) |  (refine ZM7 rfl (SW.storeR (R:=ZAQ) (_gR:=inferInstance) ZLA (ZVh rfl) (ZVh rfl) ZAI hnl2) fun _=>?_;dsimp only[ZC,z0,z1])|(refine WMk.nil ?_)|(apply ZOk rfl;(focus (intro c;apply ZVt;(exact ZY rfl);((first|((first|apply ZVo|apply ZVn|apply ZVq|apply ZVv) <;> exact oD)|fail);all_goals infer_instance)));dsimp only[ZC,z0,z1])|(apply ZOj rfl rfl;(focus (intro c hcc;apply ZVt;(exact ZY rfl);((first|(refine ZEV (R:=ZAQ) (_gR:=inferInstance) ZDj (ZVh rfl) hcc (ZVh rfl) rfl p2)|(refine ZEV (R:=ZAQ) (_gR:=inferInstance) ZDj (ZVh rfl) hcc (ZVh rfl) rfl hnl2)|(refine ZCx (R:=ZAQ) (_gR:=inferInstance) ZLA (ZVh rfl) hcc p2 hrk)|(refine ZCx (R:=ZAQ) (_gR:=inferInstance) ZLA (ZVh rfl) hcc hnl2 hrn)|fail);all_goals infer_instance)));dsimp only[ZC,z0,z1])|((first|apply ZVi|apply ZVl);exact yF;dsimp only[ZC,z0,z1])|refine ZVj ?_|refine WD.nil ?_|refine ZA fun Kx hK=>?_|(refine hK _ _ ?_;clear hK)|(refine ZV0 ?_;clear hK)|refine ZVk ?_|(apply ZWB;kernel_rfl;kernel_rfl) |  (refine ZBk (SW.storeR (R:=ZAQ) (_gR:=inferInstance) ZLA (ZVh rfl) (ZVh rfl) ZAI hk2) fun _=>?_;dsimp only[ZC,z0,z1])|((first|apply ZWW|apply ZWX);exact eD;exact ZVh rfl;exact oD;decide;exact lD;(intro _;dsimp only[ZC,z0,z1]);all_goals (try infer_instance))|((apply(ZWP (List.Perm.swap _ _ _));(first|apply ZWW|apply ZWX);exact eD;exact ZVh rfl;exact oD;decide;exact lD;(intro _;dsimp only[ZC,z0,z1]);all_goals (try infer_instance)))|(apply ZWF;(first|exact ZQd|exact tzQ3|exact ZN2);(first|exact Z0 rfl|exact ZAw);(intro _;dsimp only[ZC,z0,z1]))|(apply ZR;exact tD;rfl;exact oD;exact hD;dsimp only[ZC,z0,z1])|(apply ZCC;exact tD;rfl;exact oD;exact hD;dsimp only[ZC,z0,z1])|(apply WL.storeF3;exact tD;rfl;exact oD;exact hD;dsimp only[ZC,z0,z1])|((first|apply ZF|apply WD.op);(focus (first|exact wN|(apply ZVt;exact wY;((first|(apply Z9 ZEj;exact ZVh rfl)|(apply ZL1 (hpv) ZOt Tryz.call156;exact bD)|(refine ZEV (R:=ZAQ) (_gR:=inferInstance) ZDj (ZVh rfl) (mAt 0 rfl) (ZVh rfl) rfl hk2)|((first|apply ZVo|apply ZVn|apply ZVq|apply ZVv) <;> exact oD)|fail);all_goals infer_instance))));dsimp only[ZC,z0,z1])|((first|refine ZM rfl rfl rfl (fun h=>?_) (fun h=>?_)|refine ZL rfl rfl rfl (fun h=>?_) (fun h=>?_)|refine ZK rfl rfl rfl (fun h=>?_) (fun h=>?_)|refine Za rfl rfl rfl (fun h=>?_) (fun h=>?_)|refine ZX rfl rfl rfl (fun h=>?_) (fun h=>?_)|refine ZV rfl rfl rfl (fun h=>?_) (fun h=>?_)) <;> (first|(exfalso;first|omega|contradiction)|(dsimp only[z0,z1])))|(apply Zf;exact oD;(with_reducible rfl))|(apply ZQ;exact oD;(with_reducible rfl))|(apply ZB;exact oD;all_goals (intro h;try exact xD))|(apply ZG;exact oD;all_goals (intro h;try exact xD))|(apply ZO;exact oD;all_goals (intro h;try exact xD))|(apply ZWY;exact oD;all_goals (intro h;try exact xD))|refine ZVr ?_|refine ZVs ?_|refine ZV1 ?_|refine ZVp ?_|refine ZVx ?_|refine ZVz ?_|refine ThenD.x ?_|refine InBlockD.x ?_|refine ZWc ?_|refine ZWC ?_|refine ZCw (by decide) ?_))
    all_goals try exact xO
    rw[hsw];generalize swapI rows n k=S at hnx hsl hsm;have hnS:n<S.length:=by omega
    rw[<- L05.clrN_zero S n (c:Int)];(refine ZV4 (X:=Nat) (fun i=>[(7,dI (i:Int)),(39,dA),(40,dA),(41,dA),(42,dA),(43,dA),(44,dA),(45,dA),(46,dA),(47,dA),(48,dA),(49,dA),(50,dA),(51,dA),(52,dA),(53,dA),(54,dA),(55,dA),(56,dA),(57,dA),(58,dA),(59,dA),(60,dA),(61,dA),(62,dA),(63,dA),(64,dA),(65,dA),(66,dA),(67,dA)]) (fun i=>([Zk v 23 ZAQ (ZK6 S n (c:Int) i),Zm b2 105 2 true (dX (.agg #[.int .i64 0,.slice none 0 0]))])) (fun i=>S.length-i) (fun i=>i≤S.length) 0 ?start ?frame0 ?objs0 ?round)
    case start=>exact Nat.zero_le _
    case frame0=>exact zFr
    case objs0=>rfl
    case round =>
     rintro i hi;dsimp only[ZH,z0,z1];have hLl:=L05.clrN_len S n (c:Int) i;have hni:n<(ZK6 S n (c:Int) i).length:=by rw[hLl];exact hnS
     have hLn:=L05.clrN_own hni;by_cases hil:i<S.length
     ·have hiI:(i:Int)<((ZK6 S n (c:Int) i).length:Int):=by rw[hLl];omega
      have hii:i<(ZK6 S n (c:Int) i).length:=by rw[hLl];exact hil
      have hLi:=L05.clrN_get (Nat.le_refl i) hii;have hsi:=hsm i hil;have hsn:=hsm n hnS;by_cases hin:i=n
      ·have hinI:(i:Int)=(n:Int):=by omega
       have hstep:ZK6 S n (c:Int) (i+1)=ZK6 S n (c:Int) i:=L05.clrN_same (by rw[hin];exact L05.clrV_own);generalize ZK6 S n (c:Int) i=L at hLl hni hLn hiI hii hLi hstep;((repeat' (first|refine zS ?_|refine ZA fun Kx hK=>?_|(refine hK _ _ ?_;clear hK)|((first|apply ZF|apply WD.op);(focus (first|exact wN|(apply ZVt;exact wY;((first|exact yG|fail);all_goals infer_instance))));dsimp only[ZC,z0,z1])|((first|refine ZM rfl rfl rfl (fun h=>?_) (fun h=>?_)|refine ZL rfl rfl rfl (fun h=>?_) (fun h=>?_)|refine ZK rfl rfl rfl (fun h=>?_) (fun h=>?_)|refine Za rfl rfl rfl (fun h=>?_) (fun h=>?_)|refine ZX rfl rfl rfl (fun h=>?_) (fun h=>?_)|refine ZV rfl rfl rfl (fun h=>?_) (fun h=>?_)) <;> (first|(exfalso;first|omega|contradiction)|(dsimp only[z0,z1])))|(apply ZQ;exact oD;(with_reducible rfl))|(apply ZB;exact oD;all_goals (intro h;try exact xD))|refine ZVr ?_|refine ZVp ?_|refine ZVx ?_));all_goals ((repeat clear hK);repeat clear Kx))
       all_goals try exact xO
       rw[<- hstep];(refine zNx (i+1) ?_;(try dsimp only))
       omega
      ·have hinI:¬ (i:Int)=(n:Int):=by omega
       have hcs:=ZGV (rw' S i) (c:Int) (by omega);by_cases hci:(c:Int)∈rw' S i
       ·rw[decide_eq_true hci] at hcs;have hstep:(ZK6 S n (c:Int) i).set i (plus (rw' S i) (rw' S n))=ZK6 S n (c:Int) (i+1):=by
         rw[<- L05.clrN_set,show ZWh S n (c:Int) i=plus (rw' S i) (rw' S n) from if_pos ⟨hin,hci⟩]
        have hpl:=ZQJ (rw' S i) (rw' S n) (by omega);generalize ZK6 S n (c:Int) i=L at hLl hni hLn hiI hii hLi hstep;generalize rw' S i=ri at hLi hcs hstep hpl hsi hci;generalize rw' S n=rn2 at hLn hstep hpl hsn;((repeat' (first |  (apply ZWk (id:=14) 11;kernel_rfl;kernel_rfl;simp only[List.take_succ_cons,List.take_zero,List.drop_succ_cons,List.drop_zero])|((first|apply ZVi|apply ZVl);exact yF;dsimp only[ZC,z0,z1])|refine ZVj ?_|refine WD.nil ?_|refine ZA fun Kx hK=>?_|(refine hK _ _ ?_;clear hK)|refine ZVk ?_ |  (refine ZBk (SW.storeR (R:=ZAQ) (_gR:=inferInstance) ZLA (ZVh rfl) (ZVh rfl) ZAI hii) fun _=>?_;dsimp only[ZC,z0,z1])|((first|apply ZF|apply WD.op);(focus (first|exact wN|(apply ZVt;exact wY;((first|(refine ZEV (R:=ZAQ) (_gR:=inferInstance) ZDj (ZVh rfl) (mAt 0 rfl) (ZVh rfl) rfl hii)|(refine ZEV (R:=ZAQ) (_gR:=inferInstance) ZDj (ZVh rfl) (mAt 0 rfl) (ZVh rfl) rfl hni)|(refine ZCx (R:=ZAQ) (_gR:=inferInstance) ZLA (ZVh rfl) (mAt 0 rfl) hii hLi)|(refine ZCx (R:=ZAQ) (_gR:=inferInstance) ZLA (ZVh rfl) (mAt 0 rfl) hni hLn)|(apply ZVm (hcs) Tryz.call138;exact aD)|(apply ZVm (hpl) Tryz.call157;exact aD)|((first|apply ZVo|apply ZVn|apply ZVq|apply ZVv) <;> exact oD)|((first|apply ZV2) <;> first|exact oD|omega)|(apply ZFP;exact ZVh rfl;(first|exact .head _|exact .tail _ (.head _));exact uD)|(apply ZU;exact oD;(with_reducible rfl);exact oD)|fail);all_goals infer_instance))));dsimp only[ZC,z0,z1])|((first|refine ZM rfl rfl rfl (fun h=>?_) (fun h=>?_)|refine ZL rfl rfl rfl (fun h=>?_) (fun h=>?_)|refine ZK rfl rfl rfl (fun h=>?_) (fun h=>?_)|refine Za rfl rfl rfl (fun h=>?_) (fun h=>?_)|refine ZX rfl rfl rfl (fun h=>?_) (fun h=>?_)|refine ZV rfl rfl rfl (fun h=>?_) (fun h=>?_)) <;> (first|(exfalso;first|omega|contradiction)|(dsimp only[z0,z1])))|(apply Zf;exact oD;(with_reducible rfl))|(apply ZB;exact oD;all_goals (intro h;try exact xD))|refine ZVr ?_|refine ZVp ?_|refine ZVx ?_));all_goals ((repeat clear hK);repeat clear Kx))
        all_goals try exact xO
        rw[hstep];(refine zNx (i+1) ?_;(try dsimp only))
        omega
       ·rw[decide_eq_false hci] at hcs;have hstep:ZK6 S n (c:Int) (i+1)=ZK6 S n (c:Int) i:=L05.clrN_same (if_neg fun q=>hci q.2);generalize ZK6 S n (c:Int) i=L at hLl hni hLn hiI hii hLi hstep;generalize rw' S i=ri at hLi hcs hsi hci;((repeat' (first|refine zS ?_|refine ZA fun Kx hK=>?_|(refine hK _ _ ?_;clear hK)|((first|apply ZF|apply WD.op);(focus (first|exact wN|(apply ZVt;exact wY;((first|(refine ZEV (R:=ZAQ) (_gR:=inferInstance) ZDj (ZVh rfl) (mAt 0 rfl) (ZVh rfl) rfl hii)|(refine ZCx (R:=ZAQ) (_gR:=inferInstance) ZLA (ZVh rfl) (mAt 0 rfl) hii hLi)|(apply ZVm (hcs) Tryz.call138;exact aD)|exact yG|fail);all_goals infer_instance))));dsimp only[ZC,z0,z1])|((first|refine ZM rfl rfl rfl (fun h=>?_) (fun h=>?_)|refine ZL rfl rfl rfl (fun h=>?_) (fun h=>?_)|refine ZK rfl rfl rfl (fun h=>?_) (fun h=>?_)|refine Za rfl rfl rfl (fun h=>?_) (fun h=>?_)|refine ZX rfl rfl rfl (fun h=>?_) (fun h=>?_)|refine ZV rfl rfl rfl (fun h=>?_) (fun h=>?_)) <;> (first|(exfalso;first|omega|contradiction)|(dsimp only[z0,z1])))|(apply ZQ;exact oD;(with_reducible rfl))|(apply ZB;exact oD;all_goals (intro h;try exact xD))|refine ZVr ?_|refine ZVp ?_|refine ZVx ?_));all_goals ((repeat clear hK);repeat clear Kx))
        all_goals try exact xO
        rw[<- hstep];(refine zNx (i+1) ?_;(try dsimp only))
        omega
     ·have hiI:¬ (i:Int)<((ZK6 S n (c:Int) i).length:Int):=by rw[hLl];omega
      obtain rfl:i=S.length:=by omega
      have he:=L05.clrN_end S n (c:Int);generalize ZK6 S n (c:Int) S.length=L at hLl hni hLn hiI he;((repeat' (first|refine zS ?_|refine ZA fun Kx hK=>?_|(refine hK _ _ ?_;clear hK)|(refine ZV0 ?_;clear hK)|((first|apply ZF|apply WD.op);(focus (first|exact wN|(apply ZVt;exact wY;((first|exact yG|fail);all_goals infer_instance))));dsimp only[ZC,z0,z1])|(apply ZB;exact oD;all_goals (intro h;try exact xD))|refine ZV1 ?_|refine ZVx ?_));all_goals ((repeat clear hK);repeat clear Kx))
      all_goals try exact xO
      rw[he];(refine zNx (c+1,v,ZBt S n (c:Int),n+1) ?_;(try dsimp only))
      exact⟨hcl,hnx⟩
  ·have hcI:¬ (c:Int)<(C:Int):=by omega
   obtain rfl:c=C:=by omega
   have hech:echR W c=rows.take n:=by
    unfold L05.echR;rw[hE]
   rw[hech];refine ZIM (s:=3) rfl (Zn 23 ZAQ ?_);dsimp only[z0,z1];have h0t:(([]:List (List Int)).length+(rows.take n).length)*24≤140737488355328:=by simp;omega
   ((repeat' (first |  (apply ZWk (id:=17) 5;kernel_rfl;kernel_rfl;simp only[List.take_succ_cons,List.take_zero,List.drop_succ_cons,List.drop_zero])|((first|apply ZVi|apply ZVl);exact yF;dsimp only[ZC,z0,z1])|refine ZVj ?_|refine WD.nil ?_|refine ZA fun Kx hK=>?_|(refine hK _ _ ?_;clear hK)|(refine ZV0 ?_;clear hK)|refine ZVk ?_ |  (refine ZC0 (dst:=some 8) (zs:=[.int .i64 0,.slice none 0 0]) ZN2 (by decide) (by simp[Value.oneCell']) fun b8=>?_;dsimp only[ZC,z0,z1,List.map_cons,List.map_nil]) |  (refine ZBs ZHn (ZVh rfl) (ZVh rfl) rfl rfl ?_;dsimp only[ZC,z0,z1]) |  (refine ZCY (mAt 0 rfl) fun hone=>ZBk (SW.at 1 rfl fun q=>SW.storeS ZKx (ZVh rfl) (ZVh rfl) (Z0 hone) (by simp)) fun _=>?_;dsimp only[ZC,z0,z1]) |  (refine ZWP (List.Perm.swap _ _ _) (ZL8 (k:=1) rfl ?_);dsimp only[z0,z1]) |  (refine ZCC ZHn rfl (ZWD rfl ZEc) ZA9 ?_;dsimp only[ZC,z0,z1])|((apply(ZWP (List.Perm.swap _ _ _));(first|apply ZWW|apply ZWX);exact eD;exact ZVh rfl;exact oD;decide;exact lD;(intro _;dsimp only[ZC,z0,z1]);all_goals (try infer_instance)))|((first|apply ZF|apply WD.op);(focus (first|exact wN|(apply ZVt;exact wY;((first|(apply Z9 ZEj;exact ZVh rfl)|(exact ZLH (ZVh rfl))|(refine ZAl ZJJ (ZVh rfl) (by decide))|(refine ZAY ZKx (ZVh rfl) (mAt 0 rfl) rfl)|(exact ZRC (R:=ZAQ) (_gR:=inferInstance) ZDj hnl (ZVh rfl) (ZVh rfl))|(refine ZDN ZHn (ZVh rfl) (mAt 0 rfl) (by decide) rfl)|((first|apply ZVo|apply ZVn|apply ZVq|apply ZVv) <;> exact oD)|fail);all_goals infer_instance))));dsimp only[ZC,z0,z1])|(apply ZB;exact oD;all_goals (intro h;try exact xD))|refine ZVs ?_|refine ZV1 ?_));all_goals ((repeat clear hK);repeat clear Kx))
   all_goals try exact xO
   rw[hech,List.nil_append];(refine⟨trivial,_,rfl,?_⟩;exact fD)
end
end Go.Proofs.YtofkoleingbbpaaGreatDoor
