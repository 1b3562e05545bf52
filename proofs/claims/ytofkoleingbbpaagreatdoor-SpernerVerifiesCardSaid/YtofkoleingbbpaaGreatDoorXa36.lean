/- Part 36: walks by contracts, and plain laws. -/
import Derived.Test.YtofkoleingbbpaaGreatDoorXa33
import Derived.Test.YtofkoleingbbpaaGreatDoorXa35
set_option linter.unusedVariables false
set_option linter.unusedSimpArgs false
set_option linter.unusedSectionVars false
set_option maxRecDepth 100000
set_option maxHeartbeats 64000000
namespace Go.Proofs.YtofkoleingbbpaaGreatDoor
section
open Go.RowKit



theorem ZPh (x:Int):Fn Tryz.prog 145 [dI x] (dB false):=by
 (refine ZE Tryz.func145 rfl rfl ?_;simp only[Tryz.ntmps145,List.length_cons,List.length_nil,Nat.reduceAdd,Nat.reduceSub,List.replicate_succ,List.replicate_zero,List.cons_append,List.nil_append])
 ((repeat' (first|(apply WL.opN;exact yF;dsimp only[ZC,z0,z1])|refine WL.nil ?_|refine ZA fun Kx hK=>?_|(refine hK _ _ ?_;clear hK)|refine WC.region ?_|(apply WL.opN;(focus ((first|((first|apply SY.move|apply SY.assign|apply SY.neq) <;> (exact oD))|fail);all_goals infer_instance));dsimp only[ZC,z0,z1])|refine WC.ret ?_));all_goals (first|((repeat clear hK);(repeat clear Kx))))
 all_goals try (exfalso;first|contradiction|omega)
 (refine⟨trivial,_,rfl,?_⟩;refine FinD.b ?_)
 simp
theorem ZMr (x:Int):Fn Tryz.prog 164 [dI x] (dB false):=by
 (refine ZE Tryz.func164 rfl rfl ?_;simp only[Tryz.ntmps164,List.length_cons,List.length_nil,Nat.reduceAdd,Nat.reduceSub,List.replicate_succ,List.replicate_zero,List.cons_append,List.nil_append])
 ((repeat' (first|(apply WL.opN;exact yF;dsimp only[ZC,z0,z1])|refine WL.nil ?_|refine ZA fun Kx hK=>?_|(refine hK _ _ ?_;clear hK)|refine WC.region ?_|(apply WL.opN;(focus ((first|((first|apply SY.move|apply SY.assign|apply SY.neq) <;> (exact oD))|fail);all_goals infer_instance));dsimp only[ZC,z0,z1])|refine WC.ret ?_));all_goals (first|((repeat clear hK);(repeat clear Kx))))
 all_goals try (exfalso;first|contradiction|omega)
 (refine⟨trivial,_,rfl,?_⟩;refine FinD.b ?_)
 simp
theorem ZRu (x y:Int):Fn Tryz.prog 163 [dI x,dI y] (dB (decide (x<y))):=by
 have h1:=ZPh x;have h2:=ZPh y;(refine ZE Tryz.func163 rfl rfl ?_;simp only[Tryz.ntmps163,List.length_cons,List.length_nil,Nat.reduceAdd,Nat.reduceSub,List.replicate_succ,List.replicate_zero,List.cons_append,List.nil_append])
 ((repeat' (first|(apply WL.opN;exact yF;dsimp only[ZC,z0,z1])|refine WL.nil ?_|refine ZA fun Kx hK=>?_|(refine hK _ _ ?_;clear hK)|refine WC.region ?_|(apply ZF;(focus (first|exact wN|(apply SYG.yes;(exact wY);((first|(apply SY.call (h1) Tryz.call145;(exact aD))|((first|apply SY.move|apply SY.assign|apply SY.lss|apply SY.not) <;> (exact oD))|(apply ZY;(exact oD);(with_reducible rfl);(exact oD))|fail);all_goals infer_instance))));dsimp only[ZC,z0,z1])|refine WC.ret ?_));all_goals (first|((repeat clear hK);(repeat clear Kx))))
 all_goals try (exfalso;first|contradiction|omega)
 (refine⟨trivial,_,rfl,?_⟩;exact fD)
theorem ZIX {x:List Int} (h:L05.Asc x) {i j:Nat} (hi:i<x.length) (hj:j<x.length) (hij:i<j):x[i]<x[j]:=List.pairwise_iff_getElem.1 h i j hi hj hij
theorem ZTb (x:List Int) (v:Int) (hx:L05.Asc x) (hl:x.length≤1000000):Fn Tryz.prog 155 [dS ZAR x,dI v] (dT [dA,dB (decide (v∈x))]):=by
 (refine Z9 Tryz.func155 rfl rfl ?_;simp only[Tryz.ntmps155,List.length_cons,List.length_nil,Nat.reduceAdd,Nat.reduceSub,List.replicate_succ,List.replicate_zero,List.cons_append,List.nil_append])
 (repeat' (first|(apply WL.opN;exact yF;dsimp only[ZC,z0,z1])|refine WL.nil ?_|refine ZA fun Kx hK=>?_|(refine hK _ _ ?_;clear hK)|refine WC.region ?_|(apply ZF;(focus (first|exact wN|(apply SYG.yes;(exact wY);((first|(apply SY.len;(exact oD);(exact nD);(exact uD))|fail);all_goals infer_instance))));dsimp only[ZC,z0,z1])|refine WC.block ?_))
 all_goals try (exfalso;first|contradiction|omega)
 (refine WC.loopU (X:=Nat × Nat) (fun p=>[(7,dI (p.1:Int)),(8,dI (p.2:Int)),(9,dA),(13,dA),(14,dA),(15,dA),(16,dA),(17,dA),(18,dA),(19,dA),(20,dA),(21,dA),(22,dA),(23,dA),(24,dA),(25,dA),(26,dA),(27,dA),(28,dA),(29,dA),(30,dA)]) (fun p=>[]) (fun p=>p.2-p.1) (fun p=>p.1≤p.2/\p.2≤x.length/\(∀k (h:k<x.length),k<p.1->x[k]<v)/\(∀k (h:k<x.length),p.2≤k->v≤x[k])) (0,x.length) ?start ?frame0 ?objs0 ?round)
 case start=>exact⟨Nat.zero_le _,Nat.le_refl _,fun k _ h=>absurd h (Nat.not_lt_zero k),fun k h h2=>by simp only at h2;omega⟩
 case frame0=>exact zFr
 case objs0=>rfl
 case round =>
  rintro⟨i,j⟩ ⟨h1,h2,h3,h4⟩;simp only at h1 h2 h3 h4;dsimp only[ZL,z0,z1];by_cases hij:i<j
  ·have hijI:(i:Int)<(j:Int):=by omega
   obtain⟨m,hm⟩:∃m,(i+j) / 2=m:=⟨_,rfl⟩;have hmi:i≤m/\m<j:=by omega
   have hml:m<x.length:=by omega
   have e1:(i:Int)+(j:Int)=((i+j:Nat):Int):=by omega
   have c1:=cvIW (i+j) (by omega);have c2:=shrW (i+j) (by omega);have c3:=cvWI m (by omega);rw[hm] at c2;obtain⟨u,hu⟩:∃u,x[m]=u:=⟨_,rfl⟩;have hls:=ZRu u v;by_cases huv:u<v
   ·rw[decide_eq_true huv] at hls;((repeat' (first|(apply WL.opN;exact yF;dsimp only[ZC,z0,z1])|refine WL.nil ?_|refine ZA fun Kx hK=>?_|(refine hK _ _ ?_;clear hK)|refine WC.region ?_|(apply ZF;(focus (first|exact wN|(apply SYG.yes;(exact wY);((first|(exact ZIH e1 (by omega) (OpD.t rfl) (OpD.t rfl))|(exact ZIJ (OpD.t rfl) rfl c1)|(exact ZII (OpD.t rfl) c3)|(exact ZLF (OpD.t rfl) OpD.x c2)|(exact Zg (R:=RI) (_gR:=inferInstance) elI hml hu (OpD.t rfl) (OpD.t rfl))|(apply SY.call (hls) Tryz.call163;(exact aD))|((first|apply SY.move|apply SY.assign|apply SY.lss|apply SY.eql) <;> (exact oD))|((first|apply SY.add) <;> first|exact oD|omega)|fail);all_goals infer_instance))));dsimp only[ZC,z0,z1])|(apply Zc;(exact oD);(with_reducible rfl))|(apply ZB;(exact oD);all_goals (intro h;try exact xD))|refine WC.skip ?_|refine WC.block ?_|refine ThenD.n ?_|refine InBlockD.n ?_));all_goals (first|((repeat clear hK);(repeat clear Kx))))
    all_goals try (exfalso;first|contradiction|omega)
    (refine zNx (m+1,j) ?_;(try dsimp only))
    refine⟨by omega,h2,fun k hk hkm=>?_,h4⟩;by_cases e:k=m
    ·subst e;rw[hu];exact huv
    ·have:=ZIX hx hk hml (by omega);omega
   ·rw[decide_eq_false huv] at hls;((repeat' (first|(apply WL.opN;exact yF;dsimp only[ZC,z0,z1])|refine WL.nil ?_|refine ZA fun Kx hK=>?_|(refine hK _ _ ?_;clear hK)|refine WC.region ?_|(apply ZF;(focus (first|exact wN|(apply SYG.yes;(exact wY);((first|(exact ZIH e1 (by omega) (OpD.t rfl) (OpD.t rfl))|(exact ZIJ (OpD.t rfl) rfl c1)|(exact ZII (OpD.t rfl) c3)|(exact ZLF (OpD.t rfl) OpD.x c2)|(exact Zg (R:=RI) (_gR:=inferInstance) elI hml hu (OpD.t rfl) (OpD.t rfl))|(apply SY.call (hls) Tryz.call163;(exact aD))|((first|apply SY.move|apply SY.assign|apply SY.lss|apply SY.eql) <;> (exact oD))|fail);all_goals infer_instance))));dsimp only[ZC,z0,z1])|(apply ZQ;(exact oD);(with_reducible rfl))|(apply ZB;(exact oD);all_goals (intro h;try exact xD))|refine WC.skip ?_|refine WC.block ?_|refine ThenD.n ?_|refine InBlockD.n ?_));all_goals (first|((repeat clear hK);(repeat clear Kx))))
    all_goals try (exfalso;first|contradiction|omega)
    (refine zNx (i,m) ?_;(try dsimp only))
    refine⟨by omega,by omega,h3,fun k hk hkm=>?_⟩;by_cases e:k=m
    ·subst e;rw[hu];omega
    ·have:=ZIX hx hml hk (by omega);omega
  ·have hijI:¬ (i:Int)<(j:Int):=by omega
   obtain rfl:i=j:=by omega
   by_cases hil:i<x.length
   ·have hilI:(i:Int)<(x.length:Int):=by omega
    obtain⟨u,hu⟩:∃u,x[i]=u:=⟨_,rfl⟩;have hn1:=ZMr u;have hn2:=ZMr v;by_cases huv:u=v
    ·have hmem:v∈x:=by rw[<- huv,<- hu];exact List.getElem_mem hil
     rw[decide_eq_true hmem];((repeat' (first|(apply WL.opN;exact yF;dsimp only[ZC,z0,z1])|refine WL.nil ?_|refine ZA fun Kx hK=>?_|(refine hK _ _ ?_;clear hK)|(refine Kont.skip ?_;clear hK)|refine WC.region ?_ |  (apply ZF;(focus (apply SYG.no;exact ZDJ rfl rfl rfl));dsimp only[ZC,z0,z1])|(apply ZF;(focus (first|exact wN|(apply SYG.yes;(exact wY);((first|(exact Zg (R:=RI) (_gR:=inferInstance) elI hil hu (OpD.t rfl) (OpD.t rfl))|((first|apply SY.move|apply SY.assign|apply SY.lss|apply SY.eql) <;> (exact oD))|(apply SY.load;(exact tD);(exact oD))|(apply ZZ;(exact oD);(with_reducible rfl);(exact oD))|fail);all_goals infer_instance))));dsimp only[ZC,z0,z1])|((first|refine ZK rfl rfl rfl (fun h=>?_) (fun h=>?_)|refine ZJ rfl rfl rfl (fun h=>?_) (fun h=>?_)|refine ZI rfl rfl rfl (fun h=>?_) (fun h=>?_)) <;> (first|(exfalso;first|omega|contradiction)|(dsimp only[z0,z1])))|(apply ZB;(exact oD);all_goals (intro h;try exact xD))|refine WC.ret ?_|refine WC.exit ?_));all_goals (first|((repeat clear hK);(repeat clear Kx))))
     all_goals try (exfalso;first|contradiction|omega)
     (refine⟨trivial,⟨_,rfl,FinD.le (ZBh _)⟩,_,rfl,FinD.b ?_⟩;first|rfl|simp[hmem])
    ·have hmem:v∉x:=fun q=>by
      obtain⟨k,hk,e⟩:=List.getElem_of_mem q;rcases Nat.lt_trichotomy k i with h|h|h
      ·have:=h3 k hk h;omega
      ·subst h;exact huv (hu ▸ e)
      ·have:=ZIX hx hil hk h;have:=h4 i hil (Nat.le_refl _);omega
     rw[decide_eq_false hmem];((repeat' (first|(apply WL.opN;exact yF;dsimp only[ZC,z0,z1])|refine WL.nil ?_|refine ZA fun Kx hK=>?_|(refine hK _ _ ?_;clear hK)|(refine Kont.skip ?_;clear hK)|refine WC.region ?_|(apply ZF;(focus (first|exact wN|(apply SYG.yes;(exact wY);((first|(exact Zg (R:=RI) (_gR:=inferInstance) elI hil hu (OpD.t rfl) (OpD.t rfl))|(apply SY.call (hn1) Tryz.call164;(exact aD))|((first|apply SY.move|apply SY.assign|apply SY.lss|apply SY.eql) <;> (exact oD))|(apply SY.load;(exact tD);(exact oD))|(apply ZZ;(exact oD);(with_reducible rfl);(exact oD))|(apply ZY;(exact oD);(with_reducible rfl);(exact oD))|fail);all_goals infer_instance))));dsimp only[ZC,z0,z1])|((first|refine ZK rfl rfl rfl (fun h=>?_) (fun h=>?_)|refine ZJ rfl rfl rfl (fun h=>?_) (fun h=>?_)|refine ZI rfl rfl rfl (fun h=>?_) (fun h=>?_)) <;> (first|(exfalso;first|omega|contradiction)|(dsimp only[z0,z1])))|(apply ZB;(exact oD);all_goals (intro h;try exact xD))|refine WC.ret ?_|refine WC.exit ?_));all_goals (first|((repeat clear hK);(repeat clear Kx))))
     all_goals try (exfalso;first|contradiction|omega)
     (refine⟨trivial,⟨_,rfl,FinD.le (ZBh _)⟩,_,rfl,FinD.b ?_⟩;first|rfl|simp[hmem])
   ·have hilI:¬ (i:Int)<(x.length:Int):=by omega
    have hmem:v∉x:=fun q=>by
     obtain⟨k,hk,e⟩:=List.getElem_of_mem q;have:=h3 k hk (by omega);omega
    rw[decide_eq_false hmem];((repeat' (first|(apply WL.opN;exact yF;dsimp only[ZC,z0,z1])|refine WL.nil ?_|refine ZA fun Kx hK=>?_|(refine hK _ _ ?_;clear hK)|(refine Kont.skip ?_;clear hK)|refine WC.region ?_ |  (apply ZF;(focus (apply SYG.no;exact ZDJ rfl rfl rfl));dsimp only[ZC,z0,z1])|(apply ZF;(focus (first|exact wN|(apply SYG.yes;(exact wY);((first|((first|apply SY.move|apply SY.assign|apply SY.lss|apply SY.eql) <;> (exact oD))|(apply ZY;(exact oD);(with_reducible rfl);(exact oD))|fail);all_goals infer_instance))));dsimp only[ZC,z0,z1])|((first|refine ZK rfl rfl rfl (fun h=>?_) (fun h=>?_)|refine ZJ rfl rfl rfl (fun h=>?_) (fun h=>?_)|refine ZI rfl rfl rfl (fun h=>?_) (fun h=>?_)) <;> (first|(exfalso;first|omega|contradiction)|(dsimp only[z0,z1])))|(apply ZB;(exact oD);all_goals (intro h;try exact xD))|refine WC.ret ?_|refine WC.exit ?_));all_goals (first|((repeat clear hK);(repeat clear Kx))))
    all_goals try (exfalso;first|contradiction|omega)
    (refine⟨trivial,⟨_,rfl,FinD.le (ZBh _)⟩,_,rfl,FinD.b ?_⟩;first|rfl|simp[hmem])
theorem ZTs (x:List Int) (v:Int) (hx:L05.Asc x) (hl:x.length≤1000000):Fn Tryz.prog 135 [dS ZAR x,dI v] (dB (decide (v∈x))):=by
 have h:=ZTb x v hx hl;(refine ZE Tryz.func135 rfl rfl ?_;simp only[Tryz.ntmps135,List.length_cons,List.length_nil,Nat.reduceAdd,Nat.reduceSub,List.replicate_succ,List.replicate_zero,List.cons_append,List.nil_append])
 ((repeat' (first|(apply WL.opN;exact yF;dsimp only[ZC,z0,z1])|refine WL.nil ?_|refine ZA fun Kx hK=>?_|(refine hK _ _ ?_;clear hK)|refine WC.region ?_|(apply WL.opN;(focus ((first|(apply SY.call (h) Tryz.call155;(exact aD))|(apply SY.extract;(exact oD);rfl)|fail);all_goals infer_instance));dsimp only[ZC,z0,z1])|refine WC.ret ?_));all_goals (first|((repeat clear hK);(repeat clear Kx))))
 all_goals try (exfalso;first|contradiction|omega)
 (refine⟨trivial,_,rfl,?_⟩;exact fD)
structure VecI (n:Int) (x:List Int):Prop where
 asc:L05.Asc x
 rng:∀v∈x,0≤v/\v<n
theorem ZQh (x:List Int) (n:Int) (h:VecI n x) (hl:x.length≤1000000):Fn Tryz.prog 103 [dS ZAR x,dI n] (dI 0):=by
 (refine ZE Tryz.func103 rfl rfl ?_;simp only[Tryz.ntmps103,List.length_cons,List.length_nil,Nat.reduceAdd,Nat.reduceSub,List.replicate_succ,List.replicate_zero,List.cons_append,List.nil_append])
 (repeat' (first|(apply WL.opN;exact yF;dsimp only[ZC,z0,z1])|refine WL.nil ?_|refine ZA fun Kx hK=>?_|(refine hK _ _ ?_;clear hK)|refine WC.region ?_|(apply ZF;(focus (first|exact wN|(apply SYG.yes;(exact wY);((first|(apply SY.len;(exact oD);(exact nD);(exact uD))|fail);all_goals infer_instance))));dsimp only[ZC,z0,z1])|refine WC.block ?_))
 all_goals try (exfalso;first|contradiction|omega)
 (refine WC.loopU (X:=Nat) (fun k=>[(9,dI (k:Int)),(4,dA),(5,dA),(6,dA),(10,dA),(11,dA),(12,dA),(13,dA),(14,dA),(15,dA),(16,dA),(17,dA),(18,dA),(19,dA),(20,dA),(21,dA),(22,dA),(23,dA),(24,dA),(25,dA),(26,dA),(27,dA),(28,dA),(29,dA),(30,dA),(31,dA),(32,dA),(33,dA),(34,dA)]) (fun k=>[]) (fun k=>x.length-k) (fun k=>k≤x.length) 0 ?start ?frame0 ?objs0 ?round)
 case start=>exact Nat.zero_le _
 case frame0=>exact zFr
 case objs0=>rfl
 case round =>
  rintro k hk;dsimp only[ZL,z0,z1];by_cases hkl:k<x.length
  ·have hlt:(k:Int)<(x.length:Int):=by omega
   obtain⟨v,hv⟩:∃v,x[k]=v:=⟨_,rfl⟩;have hvr:=h.rng v (by rw[<- hv];exact List.getElem_mem hkl);have hv0:¬ v<0:=by omega
   have hvn:¬ v ≥ n:=by omega
   by_cases hk0:k=0
   ·have hk0I:¬ (k:Int)>0:=by omega
    ((repeat' (first|(apply WL.opN;exact yF;dsimp only[ZC,z0,z1])|refine WL.nil ?_|refine ZA fun Kx hK=>?_|(refine hK _ _ ?_;clear hK)|refine WC.region ?_|(apply ZF;(focus (first|exact wN|(apply SYG.yes;(exact wY);((first|(exact Zg (R:=RI) (_gR:=inferInstance) elI hkl hv (OpD.t rfl) (OpD.t rfl))|((first|apply SY.move|apply SY.assign|apply SY.lss|apply SY.gtr|apply SY.geq) <;> (exact oD))|((first|apply SY.add|apply SY.sub) <;> first|exact oD|omega)|(apply ZY;(exact oD);(with_reducible rfl);(exact oD))|fail);all_goals infer_instance))));dsimp only[ZC,z0,z1])|((first|refine ZK rfl rfl rfl (fun h=>?_) (fun h=>?_)|refine ZJ rfl rfl rfl (fun h=>?_) (fun h=>?_)|refine ZI rfl rfl rfl (fun h=>?_) (fun h=>?_)) <;> (first|(exfalso;first|omega|contradiction)|(dsimp only[z0,z1])))|(apply ZQ;(exact oD);(with_reducible rfl))|(apply ZB;(exact oD);all_goals (intro h;try exact xD))|refine WC.skip ?_|refine WC.block ?_|refine ThenD.n ?_));all_goals (first|((repeat clear hK);(repeat clear Kx))))
    all_goals try (exfalso;first|contradiction|omega)
    (refine zNx (k+1) ?_;(try dsimp only))
    omega
   ·have hk0I:(k:Int)>0:=by omega
    obtain⟨j,hj⟩:∃j,j+1=k:=⟨k-1,by omega⟩;have hjl:j<x.length:=by omega
    have e1:(k:Int)-1=(j:Int):=by omega
    obtain⟨u,hu⟩:∃u,x[j]=u:=⟨_,rfl⟩;have huv:¬ u ≥ v:=by
     have:=ZIX h.asc hjl hkl (by omega);omega
    ((repeat' (first|(apply WL.opN;exact yF;dsimp only[ZC,z0,z1])|refine WL.nil ?_|refine ZA fun Kx hK=>?_|(refine hK _ _ ?_;clear hK)|refine WC.region ?_|(apply ZF;(focus (first|exact wN|(apply SYG.yes;(exact wY);((first|(exact Zg (R:=RI) (_gR:=inferInstance) elI hkl hv (OpD.t rfl) (OpD.t rfl))|(exact ZL2 e1 (by omega) (OpD.t rfl) OpD.i)|(exact Zg (R:=RI) (_gR:=inferInstance) elI hjl hu (OpD.t rfl) (OpD.t rfl))|((first|apply SY.move|apply SY.assign|apply SY.lss|apply SY.gtr|apply SY.geq) <;> (exact oD))|((first|apply SY.add|apply SY.sub) <;> first|exact oD|omega)|(apply SY.load;(exact tD);(exact oD))|(apply ZZ;(exact oD);(with_reducible rfl);(exact oD))|(apply ZY;(exact oD);(with_reducible rfl);(exact oD))|fail);all_goals infer_instance))));dsimp only[ZC,z0,z1])|((first|refine ZK rfl rfl rfl (fun h=>?_) (fun h=>?_)|refine ZJ rfl rfl rfl (fun h=>?_) (fun h=>?_)|refine ZI rfl rfl rfl (fun h=>?_) (fun h=>?_)) <;> (first|(exfalso;first|omega|contradiction)|(dsimp only[z0,z1])))|(apply ZB;(exact oD);all_goals (intro h;try exact xD))|refine WC.skip ?_|refine WC.block ?_|refine ThenD.n ?_));all_goals (first|((repeat clear hK);(repeat clear Kx))))
    all_goals try (exfalso;first|contradiction|omega)
    (refine zNx (k+1) ?_;(try dsimp only))
    omega
  ·have hlt:¬ (k:Int)<(x.length:Int):=by omega
   ((repeat' (first|(apply WL.opN;exact yF;dsimp only[ZC,z0,z1])|refine WL.nil ?_|refine ZA fun Kx hK=>?_|(refine hK _ _ ?_;clear hK)|(refine Kont.skip ?_;clear hK)|refine WC.region ?_|(apply ZF;(focus (first|exact wN|(apply SYG.yes;(exact wY);((first|((first|apply SY.move|apply SY.assign|apply SY.lss|apply SY.gtr|apply SY.geq) <;> (exact oD))|fail);all_goals infer_instance))));dsimp only[ZC,z0,z1])|(apply ZB;(exact oD);all_goals (intro h;try exact xD))|refine WC.ret ?_|refine WC.exit ?_));all_goals (first|((repeat clear hK);(repeat clear Kx))))
   all_goals try (exfalso;first|contradiction|omega)
   (refine⟨trivial,_,rfl,?_⟩;exact fD)
theorem ZO0 (C:Int) (rows:List (List Int)) (hC:0≤C/\C≤4096) (hl:rows.length≤4096) (hrw:∀r∈rows,VecI C r/\r.length≤1000000):Fn Tryz.prog 102 [dS Mat (C,rows)] (dI 0):=by
 have hC1:¬ C<0:=by omega
 have hC2:¬ C>4096:=by omega
 have hlI:¬ (rows.length:Int)>4096:=by omega
 (refine ZE Tryz.func102 rfl rfl ?_;simp only[Tryz.ntmps102,List.length_cons,List.length_nil,Nat.reduceAdd,Nat.reduceSub,List.replicate_succ,List.replicate_zero,List.cons_append,List.nil_append])
 (repeat' (first|(apply WL.opN;exact yF;dsimp only[ZC,z0,z1])|refine WL.nil ?_|refine ZA fun Kx hK=>?_|(refine hK _ _ ?_;clear hK)|refine WC.region ?_|(apply ZF;(focus (first|exact wN|(apply SYG.yes;(exact wY);((first|(apply ZAA ZEk;exact OpD.t rfl)|(apply ZAB ZEk;exact OpD.t rfl)|((first|apply SY.move|apply SY.assign|apply SY.lss|apply SY.gtr|apply SY.neq) <;> (exact oD))|(apply SY.load;(exact tD);(exact oD))|(apply SY.len;(exact oD);(exact nD);(exact uD))|(apply ZY;(exact oD);(with_reducible rfl);(exact oD))|(apply SY.box;(exact oD);(exact hD))|fail);all_goals infer_instance))));dsimp only[ZC,z0,z1])|((first|refine ZK rfl rfl rfl (fun h=>?_) (fun h=>?_)|refine ZJ rfl rfl rfl (fun h=>?_) (fun h=>?_)|refine ZI rfl rfl rfl (fun h=>?_) (fun h=>?_)) <;> (first|(exfalso;first|omega|contradiction)|(dsimp only[z0,z1])))|(apply ZB;(exact oD);all_goals (intro h;try exact xD))|refine WC.skip ?_|refine WC.block ?_))
 all_goals try (exfalso;first|contradiction|omega)
 (refine WC.loopU (X:=Nat) (fun k=>[(23,dI (k:Int)),(2,dA),(4,dA),(5,dA),(24,dA),(25,dA),(26,dA),(27,dA),(28,dA),(29,dA),(30,dA),(31,dA),(32,dA),(33,dA),(34,dA)]) (fun k=>[]) (fun k=>rows.length-k) (fun k=>k≤rows.length) 0 ?start ?frame0 ?objs0 ?round)
 case start=>exact Nat.zero_le _
 case frame0=>exact zFr
 case objs0=>rfl
 case round =>
  rintro k hk;dsimp only[ZL,z0,z1];by_cases hkl:k<rows.length
  ·have hlt:(k:Int)<(rows.length:Int):=by omega
   obtain⟨r,hr⟩:∃r,rows[k]=r:=⟨_,rfl⟩;have hv:=ZQh r C (hrw r (by rw[<- hr];exact List.getElem_mem hkl)).1 (hrw r (by rw[<- hr];exact List.getElem_mem hkl)).2;((repeat' (first|(apply WL.opN;exact yF;dsimp only[ZC,z0,z1])|refine WL.nil ?_|refine ZA fun Kx hK=>?_|(refine hK _ _ ?_;clear hK)|refine WC.region ?_|(apply ZF;(focus (first|exact wN|(apply SYG.yes;(exact wY);((first|(apply ZAA ZEk;exact OpD.t rfl)|(exact Zg (R:=ZAR) (_gR:=inferInstance) ZDj hkl hr (OpD.t rfl) (OpD.t rfl))|(apply SY.call (hv) Tryz.call103;(exact aD))|((first|apply SY.move|apply SY.assign|apply SY.lss|apply SY.gtr|apply SY.neq) <;> (exact oD))|((first|apply SY.add) <;> first|exact oD|omega)|fail);all_goals infer_instance))));dsimp only[ZC,z0,z1])|(apply ZB;(exact oD);all_goals (intro h;try exact xD))|(apply ZG;(exact oD);all_goals (intro h;try exact xD))|refine WC.skip ?_|refine WC.block ?_|refine ThenD.n ?_));all_goals (first|((repeat clear hK);(repeat clear Kx))))
   all_goals try (exfalso;first|contradiction|omega)
   (refine zNx (k+1) ?_;(try dsimp only))
   omega
  ·have hlt:¬ (k:Int)<(rows.length:Int):=by omega
   ((repeat' (first|(apply WL.opN;exact yF;dsimp only[ZC,z0,z1])|refine WL.nil ?_|refine ZA fun Kx hK=>?_|(refine hK _ _ ?_;clear hK)|(refine Kont.skip ?_;clear hK)|refine WC.region ?_|(apply ZF;(focus (first|exact wN|(apply SYG.yes;(exact wY);((first|((first|apply SY.move|apply SY.assign|apply SY.lss|apply SY.gtr|apply SY.neq) <;> (exact oD))|fail);all_goals infer_instance))));dsimp only[ZC,z0,z1])|(apply ZB;(exact oD);all_goals (intro h;try exact xD))|refine WC.ret ?_|refine WC.exit ?_));all_goals (first|((repeat clear hK);(repeat clear Kx))))
   all_goals try (exfalso;first|contradiction|omega)
   (refine⟨trivial,_,rfl,?_⟩;exact fD)
end
section
open Go.RowKit
open L05 (Ln ZGj ZHL ZB1 RedAt Good05)
def ZAe (M:List (Int × Value × Ln)):List (Int × Ln):=M.map fun p=>(p.1,p.2.2)
theorem ZKQ (M:List (Int × Value × Ln)) (c:Int):ZB1 (ZAe M) c=(lookM M c).map (·.2):=by
 unfold ZB1 ZAe lookM;rw[List.find?_map,Option.map_map,Option.map_map];rfl
theorem ZMX {M:List (Int × Value × Ln)} {c:Int} {p:Value × Ln} (h:lookM M c=some p):p∈M.map (·.2):=by
 unfold lookM at h;obtain⟨q,h1,rfl⟩:=Option.map_eq_some_iff.1 h;exact List.mem_map_of_mem (List.mem_of_find?_eq_some h1)
theorem ZAv {a:List Int} {n:Nat} (h:L05.Asc a) (hr:∀i∈a,0≤i/\i<(n:Int)):a.length≤n:=by
 rw[C34.asc_range h hr,List.length_map];exact Nat.le_trans (List.length_filter_le _ _) (by simp)
abbrev FrmL (n:Int) (m:List (Int × Ln)):Prop:=∀p∈m,L05.Low n p.2.2
theorem ZUk:StrT Tryz.prog 155 2:=⟨fun b off i w hi=>by
 match i,hi with
 | 0,_=>go_simp
 | 1,_=>go_simp⟩
theorem ZN1 {P:Program} {f:FuncId} {ds:List Dat} {hp1 O:List HObj} {e:Dat} (h:CallC P f ds hp1 fun d hp2=>d.le e/\∃o,hp2=o::O):CallC P f ds hp1 fun d hp2=>d=e/\hp2=O:=⟨fun P0 B w0 hp vs W hh hl hv=>by
 refine Calls.mono (h.out P0 B w0 hp vs W hh hl hv) fun e' W' ⟨v,d,hp2,he,hk,hh2,hd⟩=>?_;obtain⟨hle,o,rfl⟩:=hk;exact⟨v,e,O,he,⟨rfl,rfl⟩,hh2.drop,e.weak (hle _ _ _ hd) Imm.sub⟩⟩
def ldO (b4 bm:Nat) (M:List (Int × Value × Ln)):List HObj:=[Zm b4 184 1 false (dX (.map (some bm))),hM bm kvQ (fun p:Value × Ln=>p.1) M,hKL LnR (M.map (·.2))]



theorem ZUO (b4 bm:Nat) (M:List (Int × Value × Ln)) (C n:Nat) (x:Ln) (hC:C≤4096) (hn:n≤4096) (G:Good05 C (ZAe M)) (hF:FrmL (n:Int) (ZAe M)) (h1:L05.Asc x.1) (h2:L05.Low (C:Int) x.1) (h3:L05.Pos x.1) (h4:L05.Asc x.2/\L05.Pos x.2) (h5:L05.Low (n:Int) x.2) :
  CallC Tryz.prog 132 ([dS LnR x]++[Value.pointer (some ⟨b4,0,none⟩)].map dX) (ldO b4 bm M) (fun d hp2=>d=dS LnR (ZHL (ZAe M) (C+1) 0 x)/\hp2=ldO b4 bm M):=by
 have hko:∀p∈M,ZC8 p.1:=fun p hp=>by
  have hm:(p.1,p.2.2)∈ZAe M:=List.mem_map.2 ⟨p,hp,rfl⟩;have:=G.low _ hm _ (L05.head_mem (G.hd _ hm));have:=G.pos _ hm _ (L05.head_mem (G.hd _ hm));simp only at *;unfold ZC8;omega
 have hkn:(M.map (·.1)).Nodup:=by
  have:=G.nd;unfold ZAe at this;rwa[List.map_map] at this
 refine ZN1 (ZIF ZLp Tryz.func132 rfl rfl fun hp=>?_)
 -- @kinds matrix.echelon$1
 simp only[Tryz.ntmps132,List.length_cons,List.length_nil,List.length_append,List.length_map,Nat.reduceAdd,Nat.reduceSub,List.replicate_succ,List.replicate_zero,List.cons_append,List.nil_append,List.map_cons,List.map_nil,ldO];(repeat' (first|((first|apply WL.opN|apply WD.opN);exact yF;dsimp only[ZC,z0,z1])|refine WL.nil ?_|refine ZA fun Kx hK=>?_|(refine hK _ _ ?_;clear hK)|refine WC.region ?_ |  (refine ZLJ (n:=2) (x:=Operand.tmp 0) (d:=ZEP [dS ZAR x.1,dS ZAR x.2]) (OpD.tle rfl ZN2) (ZAD (Nat.succ_pos _) rfl) fun b2=>ZRG (ds:=[dS ZAR x.1,dS ZAR x.2]) ?_;dsimp only[ZC,z0,z1]) |  (refine WL.alloc (dst:=some 3) (T:=155) ZQb (Zj rfl rfl) fun b3=>WL.perm (List.Perm.swap _ _ _) ?_;dsimp only[ZC,z0,z1])|refine WC.block ?_))
 all_goals try (exfalso;first|contradiction|omega)
 (refine WC.loopU (X:=Nat × Nat × Ln) (fun p=>[(4,dI (p.2.1:Int)),(5,dA),(6,dA),(7,dA),(8,dA),(9,dA),(10,dA),(11,dA),(12,dA),(13,dA),(14,dA),(15,dA),(16,dA),(17,dA),(18,dA),(19,dA),(20,dA),(21,dA),(22,dA),(23,dA),(24,dA),(25,dA),(26,dA),(27,dA),(28,dA),(29,dA),(30,dA),(31,dA),(32,dA),(33,dA),(34,dA),(35,dA),(36,dA)]) (fun p=>(ZAX b2 155 [dS ZAR p.2.2.1,dS ZAR p.2.2.2]::Zm b3 155 2 true (dX (.agg #[.slice none 0 0,.slice none 0 0]))::Zm b4 184 1 false (dX (.map (some bm)))::hM bm kvQ (fun p:Value × Ln=>p.1) M::hKL LnR (M.map (·.2))::hp)) (fun p=>p.1) (fun p=>RedAt [] C (ZAe M) x p.1 p.2.1 p.2.2/\L05.Low (n:Int) p.2.2.2/\ZHL (ZAe M) p.1 p.2.1 p.2.2=ZHL (ZAe M) (C+1) 0 x) (C+1,0,x) ?start ?frame0 ?objs0 ?round)
 case start=>exact⟨RedAt.start h1 h2 h3 h4,h5,rfl⟩
 case frame0=>exact zFr
 case objs0=>rfl
 case round =>
  rintro⟨f,i,y⟩ ⟨hR,hLo,hE⟩;simp only at hR hLo hE;dsimp only[ZL,z0,z1];by_cases hil:i<y.1.length
  ·have hilI:(i:Int)<(y.1.length:Int):=by omega
   obtain⟨c,hc⟩:∃c,y.1[i]=c:=⟨_,rfl⟩;have hc':y.1[i]?=some c:=by rw[List.getElem?_eq_getElem hil,hc]
   have hcm:c∈y.1:=List.mem_of_getElem? hc';have hc64:ZC8 c:=by have:=hR.low c hcm;have:=hR.pos c hcm;unfold ZC8;omega
   have hil2:i≤4096:=by have:=ZAv (n:=C) hR.asc fun v hv=>⟨hR.pos v hv,hR.low v hv⟩;omega
   obtain⟨f,rfl⟩:∃g,f=g+1:=⟨f-1,by
    cases f with
    | zero=>have:=hR.fuel c hc';have:=hR.low c hcm;omega
    | succ f=>rfl⟩
   have hlk:=ZKQ M c;cases hl:lookM M c with
   | none =>
    rw[hl] at hlk;have hE2:ZHL (ZAe M) (f+1) i y=ZHL (ZAe M) f (i+1) y:=by
     conv=>lhs;unfold ZHL
     rw[hc'];simp only[hlk,Option.map_none]
    (repeat' (first |  (refine WC.drawM (fun q=>ZAX b2 155 [dS ZAR y.1,dS ZAR y.2]∈q/\Zm b4 184 1 false (dX (.map (some bm)))∈q/\hM bm kvQ (fun p:Value × Ln=>p.1) M∈q/\hKL LnR (M.map (·.2))∈q) 12 1 [(0,false),(1,false),(2,false),(3,false),(4,false),(5,false),(6,false),(7,false),(8,false),(9,false),(10,true),(11,true)] [true,true,true,true,true,true,true,true,true,true,true,true,false] (by kernel_rfl) (by kernel_rfl) (by kernel_rfl) rfl (⟨mAt 0 rfl,mAt 2 rfl,mAt 3 rfl,mAt 4 rfl⟩) ?_) |  (first|refine WA.one (S:=[true,true,true,true,true,true,true,true,true,true,true,true,false]) (i:=12) (by kernel_rfl) rfl ?_|refine WA.nil (S:=[true,true,true,true,true,true,true,true,true,true,true,true,true]) (by kernel_rfl) ?_) |  (refine ZBX rfl (SW.alloc ZQb (Zj rfl rfl)) (fun _=>⟨mAt 1 rfl,mAt 3 rfl,mAt 4 rfl,mAt 5 rfl⟩) fun b5=>?_;dsimp only[ZC,z0,z1]) |  (refine ZBX rfl (ZGb ZLp (OpD.t rfl) (OpD.t rfl) (Zj rfl rfl)) (fun _=>⟨mAt 1 rfl,mAt 3 rfl,mAt 4 rfl,mAt 5 rfl⟩) fun _=>?_;dsimp only[ZC,z0,z1]) |  (refine WC.only5 4 (Halt5.go ?_))|(refine WM.nil ?_)|(apply WM.readL rfl;(focus (intro c hcc;apply SYG.yes;(exact Za rfl);((first|(refine ZAo ZUk (OpD.t rfl) (by decide))|(apply ZAZ;exact ZLA;exact OpD.t rfl;(first|exact hcc.1|exact mAt 0 rfl);rfl)|(apply ZBV ZQu;exact OpD.t rfl;exact hcc.2.1)|(exact Zg (R:=RI) (_gR:=inferInstance) elI hil hc (OpD.t rfl) (OpD.t rfl))|(exact ZJb ZHF ZE2 (OpD.t rfl) hcc.2.2.1 (OpD.t rfl) isI hc64 hko hkn hl)|((first|apply SY.move|apply SY.assign|apply SY.lss|apply SY.not) <;> (exact oD))|(apply SY.load;(exact tD);(exact oD))|(apply SY.extract;(exact oD);rfl)|fail);all_goals infer_instance)));dsimp only[ZC,z0,z1])|((first|apply WL.opN|apply WD.opN);exact yF;dsimp only[ZC,z0,z1])|refine WL.nil ?_|refine ZA fun Kx hK=>?_|(refine hK _ _ ?_;clear hK)|refine WC.region ?_|((first|apply WL.opN|apply WD.opN);(focus ((first|(refine ZAo ZUk (OpD.t rfl) (by decide))|(apply ZAZ;exact ZLA;exact OpD.t rfl;(first|exact hcc.1|exact mAt 0 rfl);rfl)|((first|apply SY.move|apply SY.assign|apply SY.lss|apply SY.not) <;> (exact oD))|(apply SY.len;(exact oD);(exact nD);(exact uD))|fail);all_goals infer_instance));dsimp only[ZC,z0,z1])|(apply ZB;(exact oD);all_goals (intro h;try exact xD))|refine WC.skip ?_|refine WC.block ?_))
    all_goals try (exfalso;first|contradiction|omega)
    refine⟨ZRC ?_⟩;((repeat' (first|((first|apply WL.opN|apply WD.opN);exact yF;dsimp only[ZC,z0,z1])|refine WL.nil ?_|refine ZA fun Kx hK=>?_|(refine hK _ _ ?_;clear hK)|refine WC.region ?_|((first|apply WL.opN|apply WD.opN);(focus ((first|((first|apply SY.move|apply SY.assign|apply SY.lss|apply SY.not) <;> (exact oD))|((first|apply SY.add) <;> first|exact oD|omega)|fail);all_goals infer_instance));dsimp only[ZC,z0,z1])|(apply ZO;(exact oD);all_goals (intro h;try exact xD))|refine WC.exit ?_|refine ThenD.n ?_|refine ThenD.x ?_|refine InBlockD.x ?_));all_goals (first|((repeat clear hK);(repeat clear Kx))))
    all_goals try (exfalso;first|contradiction|omega)
    (refine zNx (f,i+1,y) ?_;(try dsimp only))
    exact⟨hR.skip hc' (by rw[hlk];rfl),hLo,hE2 ▸ hE⟩
   | some p =>
    rw[hl] at hlk;have hpl:ZB1 (ZAe M) c=some p.2:=by rw[hlk];rfl
    have hpm:=L05.lookP_some hpl;have hE2:ZHL (ZAe M) (f+1) i y=ZHL (ZAe M) f i (ZGj y p.2):=by
     conv=>lhs;unfold ZHL
     rw[hc'];simp only[hpl]
    have hR2:=hR.add G hc' hpl;have hl1:=ZAv (n:=C) hR.asc fun v hv=>⟨hR.pos v hv,hR.low v hv⟩;have hl2:=ZAv (n:=n) hR.frm.1 fun v hv=>⟨hR.frm.2 v hv,hLo v hv⟩;have hl3:=ZAv (n:=C) (G.asc _ hpm) fun v hv=>⟨G.pos _ hpm v hv,G.low _ hpm v hv⟩;have hl4:=ZAv (n:=n) (G.frm _ hpm).1 fun v hv=>⟨(G.frm _ hpm).2 v hv,hF _ hpm v hv⟩;simp only at hl3 hl4;have hs1:=ZHQ y.1 p.2.1 (by omega);have hs2:=ZHQ y.2 p.2.2 (by omega);have hLo2:L05.Low (n:Int) (ZGj y p.2).2:=L05.plus_low hR.frm.1 (G.frm _ hpm).1 hLo (hF _ hpm);(repeat' (first |  (refine WC.drawM (fun q=>ZAX b2 155 [dS ZAR y.1,dS ZAR y.2]∈q/\Zm b4 184 1 false (dX (.map (some bm)))∈q/\hM bm kvQ (fun p:Value × Ln=>p.1) M∈q/\hKL LnR (M.map (·.2))∈q) 12 1 [(0,false),(1,false),(2,false),(3,false),(4,false),(5,false),(6,false),(7,false),(8,false),(9,false),(10,true),(11,true)] [true,true,true,true,true,true,true,true,true,true,true,true,false] (by kernel_rfl) (by kernel_rfl) (by kernel_rfl) rfl (⟨mAt 0 rfl,mAt 2 rfl,mAt 3 rfl,mAt 4 rfl⟩) ?_) |  (first|refine WA.one (S:=[true,true,true,true,true,true,true,true,true,true,true,true,false]) (i:=12) (by kernel_rfl) rfl ?_|refine WA.nil (S:=[true,true,true,true,true,true,true,true,true,true,true,true,true]) (by kernel_rfl) ?_) |  (refine ZBX rfl (SW.alloc ZQb (Zj rfl rfl)) (fun _=>⟨mAt 1 rfl,mAt 3 rfl,mAt 4 rfl,mAt 5 rfl⟩) fun b5=>?_;dsimp only[ZC,z0,z1]) |  (refine ZBX rfl (ZGb ZLp (OpD.t rfl) (OpD.t rfl) ZA9) (fun _=>⟨mAt 1 rfl,mAt 3 rfl,mAt 4 rfl,mAt 5 rfl⟩) fun _=>?_;dsimp only[ZC,z0,z1]) |  (refine WC.only5 4 (Halt5.go ?_))|(refine WM.nil ?_)|(apply WM.readL rfl;(focus (intro c hcc;apply SYG.yes;(exact Za rfl);((first|(refine ZAo ZUk (OpD.t rfl) (by decide))|(apply ZAZ;exact ZLA;exact OpD.t rfl;(first|exact hcc.1|exact mAt 0 rfl);rfl)|(apply ZBV ZQu;exact OpD.t rfl;exact hcc.2.1)|(exact Zg (R:=RI) (_gR:=inferInstance) elI hil hc (OpD.t rfl) (OpD.t rfl))|(exact ZJc ZHF ZE2 (OpD.t rfl) hcc.2.2.1 hcc.2.2.2 (OpD.t rfl) isI hc64 hko hkn hl (ZMX hl))|((first|apply SY.move|apply SY.assign|apply SY.lss|apply SY.not) <;> (exact oD))|(apply SY.load;(exact tD);(exact oD))|(apply SY.extract;(exact oD);rfl)|fail);all_goals infer_instance)));dsimp only[ZC,z0,z1])|((first|apply WL.opN|apply WD.opN);exact yF;dsimp only[ZC,z0,z1])|refine WL.nil ?_|refine ZA fun Kx hK=>?_|(refine hK _ _ ?_;clear hK)|refine WC.region ?_|((first|apply WL.opN|apply WD.opN);(focus ((first|(refine ZAo ZUk (OpD.t rfl) (by decide))|(apply ZAZ;exact ZLA;exact OpD.t rfl;(first|exact hcc.1|exact mAt 0 rfl);rfl)|((first|apply SY.move|apply SY.assign|apply SY.lss|apply SY.not) <;> (exact oD))|(apply SY.len;(exact oD);(exact nD);(exact uD))|fail);all_goals infer_instance));dsimp only[ZC,z0,z1])|(apply ZB;(exact oD);all_goals (intro h;try exact xD))|refine WC.skip ?_|refine WC.block ?_))
    all_goals try (exfalso;first|contradiction|omega)
    refine⟨ZM0 (t:=5) rfl ?_⟩;simp only[z0,z1];((repeat' (first |  (apply WC.drawTail 11;kernel_rfl;kernel_rfl;simp only[List.take_succ_cons,List.take_zero,List.drop_succ_cons,List.drop_zero])|((first|apply WL.opN|apply WD.opN);exact yF;dsimp only[ZC,z0,z1])|refine WL.nil ?_|refine WD.nil ?_|(refine hK _ _ ?_;clear hK)|refine WC.region ?_ |  (refine ZBr ZLp (OpD.t rfl) (OpD.tle rfl ZN2) rfl rfl ?_;dsimp only[ZC,z0,z1])|((first|apply WL.opN|apply WD.opN);(focus ((first|(refine ZAo ZUk (OpD.t rfl) (by decide))|(apply ZAZ;exact ZLA;exact OpD.t rfl;exact mAt 0 rfl;rfl)|(apply SY.call (hs1) Tryz.call133;exact ArgsD.cons (OpD.t rfl) (ArgsD.cons (OpD.t rfl) (ArgsD.nil)))|(apply SY.call (hs2) Tryz.call133;exact ArgsD.cons (OpD.t rfl) (ArgsD.cons (OpD.t rfl) (ArgsD.nil)))|(exact ZOH lnT (R:=RI) (S:=RI) (_gR:=inferInstance) (_gS:=inferInstance) (OpD.t rfl) (OpD.t rfl))|((first|apply SY.move|apply SY.assign|apply SY.lss|apply SY.not) <;> (exact oD))|(apply ZAu lnT;exact OpD.t rfl)|(apply ZBG lnT;exact OpD.t rfl)|fail);all_goals infer_instance));dsimp only[ZC,z0,z1])|(apply ZO;(exact oD);all_goals (intro h;try exact xD))|refine WC.skip ?_|refine ThenD.n ?_|refine InBlockD.n ?_));all_goals (first|((repeat clear hK);(repeat clear Kx))))
    all_goals try (exfalso;first|contradiction|omega)
    (refine zNx (f,i,ZGj y p.2) ?_;(try dsimp only))
    exact⟨hR2,hLo2,hE2 ▸ hE⟩
  ·have hilI:¬ (i:Int)<(y.1.length:Int):=by omega
   have hres:ZHL (ZAe M) f i y=y:=by
    cases f with
    | zero=>rfl
    | succ f=>unfold ZHL;rw[List.getElem?_eq_none (by omega)]
   rw[hres] at hE;((repeat' (first|((first|apply WL.opN|apply WD.opN);exact yF;dsimp only[ZC,z0,z1])|refine WL.nil ?_|refine ZA fun Kx hK=>?_|(refine hK _ _ ?_;clear hK)|(refine Kont.skip ?_;clear hK)|refine WC.region ?_ |  (refine WL.perm (List.Perm.swap _ _ _) (ZP ZLp rfl (OpD.t rfl) (ZAD (by decide) rfl) ?_);dsimp only[ZC,z0,z1])|((first|apply WL.opN|apply WD.opN);(focus ((first|(refine ZAo ZUk (OpD.t rfl) (by decide))|(apply ZAZ;exact ZLA;exact OpD.t rfl;exact mAt 0 rfl;rfl)|(exact ZDN ZLp (OpD.t rfl) (mAt 0 rfl) (by decide) rfl)|((first|apply SY.move|apply SY.assign|apply SY.lss|apply SY.not) <;> (exact oD))|(apply SY.len;(exact oD);(exact nD);(exact uD))|fail);all_goals infer_instance));dsimp only[ZC,z0,z1])|(apply ZB;(exact oD);all_goals (intro h;try exact xD))|refine WC.ret ?_|refine WC.exit ?_));all_goals (first|((repeat clear hK);(repeat clear Kx))))
   all_goals try (exfalso;first|contradiction|omega)
   exact⟨trivial,_,_::_,rfl,rfl,hE ▸ ZEd,_,rfl⟩
end
end Go.Proofs.YtofkoleingbbpaaGreatDoor
