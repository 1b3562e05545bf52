/- Part 31: walks by contracts, and plain laws. -/
import Derived.Test.YtokmalofdapffaaGreatV30
set_option linter.unusedVariables false
set_option linter.unusedSimpArgs false
set_option linter.unusedSectionVars false
set_option maxRecDepth 100000
set_option maxHeartbeats 4000000
namespace Go.Proofs.YtokmalofdapffaaGreat
section
open Go.RowKit



theorem ZNo (x:Int):Fn Tryz.prog 116 [dI x] (dB false):=by
 (refine ZG Tryz.func116 rfl rfl ?_;simp only [Tryz.ntmps116,List.length_cons,List.length_nil,Nat.reduceAdd,Nat.reduceSub,List.replicate_succ,List.replicate_zero,List.cons_append,List.nil_append])
 ((repeat' (first|(apply WL.opN;exact yF;dsimp only [ZB,z0,z1])|refine WL.nil ?_|refine ZA fun Kx hK=>?_|(refine hK _ _ ?_;clear hK)|refine WC.region ?_|(apply WL.opN;(focus ((first|((first|apply SY.move|apply SY.assign|apply SY.neq) <;> (exact oD))|fail);all_goals infer_instance));dsimp only [ZB,z0,z1])|refine WC.ret ?_));all_goals (first|((repeat clear hK);(repeat clear Kx))))
 all_goals try (exfalso;first|contradiction|omega)
 (refine ⟨trivial,_,rfl,?_⟩;refine FinD.b ?_)
 simp
theorem ZK8 (x:Int):Fn Tryz.prog 139 [dI x] (dB false):=by
 (refine ZG Tryz.func139 rfl rfl ?_;simp only [Tryz.ntmps139,List.length_cons,List.length_nil,Nat.reduceAdd,Nat.reduceSub,List.replicate_succ,List.replicate_zero,List.cons_append,List.nil_append])
 ((repeat' (first|(apply WL.opN;exact yF;dsimp only [ZB,z0,z1])|refine WL.nil ?_|refine ZA fun Kx hK=>?_|(refine hK _ _ ?_;clear hK)|refine WC.region ?_|(apply WL.opN;(focus ((first|((first|apply SY.move|apply SY.assign|apply SY.neq) <;> (exact oD))|fail);all_goals infer_instance));dsimp only [ZB,z0,z1])|refine WC.ret ?_));all_goals (first|((repeat clear hK);(repeat clear Kx))))
 all_goals try (exfalso;first|contradiction|omega)
 (refine ⟨trivial,_,rfl,?_⟩;refine FinD.b ?_)
 simp
theorem ZP7 (x y:Int):Fn Tryz.prog 138 [dI x,dI y] (dB (decide (x<y))):=by
 have h1:=ZNo x
 have h2:=ZNo y
 (refine ZG Tryz.func138 rfl rfl ?_;simp only [Tryz.ntmps138,List.length_cons,List.length_nil,Nat.reduceAdd,Nat.reduceSub,List.replicate_succ,List.replicate_zero,List.cons_append,List.nil_append])
 ((repeat' (first|(apply WL.opN;exact yF;dsimp only [ZB,z0,z1])|refine WL.nil ?_|refine ZA fun Kx hK=>?_|(refine hK _ _ ?_;clear hK)|refine WC.region ?_|(apply ZF;(focus (first|exact wN|(apply SYG.yes;(exact wY);((first|(apply SY.call (h1) Tryz.call116;(exact aD))|((first|apply SY.move|apply SY.assign|apply SY.lss|apply SY.not) <;> (exact oD))|(apply Zj;(exact oD);(with_reducible rfl);(exact oD))|fail);all_goals infer_instance))));dsimp only [ZB,z0,z1])|refine WC.ret ?_));all_goals (first|((repeat clear hK);(repeat clear Kx))))
 all_goals try (exfalso;first|contradiction|omega)
 (refine ⟨trivial,_,rfl,?_⟩;exact fD)
theorem ZG4 {x:List Int} (h:L05.Asc x) {i j:Nat} (hi:i<x.length) (hj:j<x.length) (hij:i<j):x[i]<x[j]:=List.pairwise_iff_getElem.1 h i j hi hj hij
set_option maxHeartbeats 8000000 in
theorem ZRS (x:List Int) (v:Int) (hx:L05.Asc x) (hl:x.length≤1000000):Fn Tryz.prog 135 [dS ZBk x,dI v] (dT [dA,dB (decide (v∈x))]):=by
 (refine Z7 Tryz.func135 rfl rfl ?_;simp only [Tryz.ntmps135,List.length_cons,List.length_nil,Nat.reduceAdd,Nat.reduceSub,List.replicate_succ,List.replicate_zero,List.cons_append,List.nil_append])
 (repeat' (first|(apply WL.opN;exact yF;dsimp only [ZB,z0,z1])|refine WL.nil ?_|refine ZA fun Kx hK=>?_|(refine hK _ _ ?_;clear hK)|refine WC.region ?_|(apply ZF;(focus (first|exact wN|(apply SYG.yes;(exact wY);((first|(apply SY.len;(exact oD);(exact nD);(exact uD))|fail);all_goals infer_instance))));dsimp only [ZB,z0,z1])|refine WC.block ?_))
 all_goals try (exfalso;first|contradiction|omega)
 (refine ZH (X:=Nat × Nat) (fun p=>[(7,dI (p.1:Int)),(8,dI (p.2:Int)),(9,dA),(13,dA),(14,dA),(15,dA),(16,dA),(17,dA),(18,dA),(19,dA),(20,dA),(21,dA),(22,dA),(23,dA),(24,dA),(25,dA),(26,dA),(27,dA),(28,dA),(29,dA),(30,dA)]) (fun p=>[]) (fun p=>p.2-p.1) (fun p=>p.1≤p.2/\p.2≤x.length/\(∀ k (h:k<x.length),k<p.1->x[k]<v)/\(∀ k (h:k<x.length),p.2≤k->v≤x[k])) (0,x.length) ?start ?frame0 ?objs0 ?round)
 case start=>exact ⟨Nat.zero_le _,Nat.le_refl _,fun k _ h=>absurd h (Nat.not_lt_zero k),fun k h h2=>by simp only at h2;omega⟩
 case frame0=>((try dsimp only [ZQ,z0,z1]);repeat (first|exact LeF.nil|refine ZD (k:=?_)))
 case objs0=>rfl
 case round =>
  rintro ⟨i,j⟩ ⟨h1,h2,h3,h4⟩
  simp only at h1 h2 h3 h4
  dsimp only [ZQ,z0,z1]
  by_cases hij:i<j
  ·have hijI:(i:Int)<(j:Int):=by omega
   obtain ⟨m,hm⟩:∃ m,(i+j) / 2=m:=⟨_,rfl⟩
   have hmi:i≤m/\m<j:=by omega
   have hml:m<x.length:=by omega
   have e1:(i:Int)+(j:Int)=((i+j:Nat):Int):=by omega
   have c1:=cvIW (i+j) (by omega)
   have c2:=shrW (i+j) (by omega)
   have c3:=cvWI m (by omega)
   rw [hm] at c2
   obtain ⟨u,hu⟩:∃ u,x[m]=u:=⟨_,rfl⟩
   have hls:=ZP7 u v
   by_cases huv:u<v
   ·rw [decide_eq_true huv] at hls
    ((repeat' (first|(apply WL.opN;exact yF;dsimp only [ZB,z0,z1])|refine WL.nil ?_|refine ZA fun Kx hK=>?_|(refine hK _ _ ?_;clear hK)|refine WC.region ?_|(apply ZF;(focus (first|exact wN|(apply SYG.yes;(exact wY);((first|(exact ZJ4 e1 (by omega) (OpD.t rfl) (OpD.t rfl))|(exact ZGs (OpD.t rfl) rfl c1)|(exact ZGr (OpD.t rfl) c3)|(exact ZJQ (OpD.t rfl) OpD.x c2)|(exact ZAK (R:=RI) (_gR:=inferInstance) elI hml hu (OpD.t rfl) (OpD.t rfl))|(apply SY.call (hls) Tryz.call138;(exact aD))|((first|apply SY.move|apply SY.assign|apply SY.lss|apply SY.eql) <;> (exact oD))|((first|apply SY.add) <;> first|exact oD|omega)|fail);all_goals infer_instance))));dsimp only [ZB,z0,z1])|(apply Z0;(exact oD);(with_reducible rfl))|(apply WC.condD;(exact oD);all_goals (intro h;try exact xD))|refine WC.skip ?_|refine WC.block ?_|refine ThenD.n ?_|refine InBlockD.n ?_));all_goals (first|((repeat clear hK);(repeat clear Kx))))
    all_goals try (exfalso;first|contradiction|omega)
    (refine ⟨(m+1,j),?_,by first|omega|(simp only;omega),rfl,?_⟩;rotate_left;((try dsimp only [ZQ,z0,z1]);repeat (first|exact LeF.nil|refine ZD (k:=?_)));(try dsimp only))
    refine ⟨by omega,h2,fun k hk hkm=>?_,h4⟩
    by_cases e:k=m
    ·subst e;rw [hu];exact huv
    ·have:=ZG4 hx hk hml (by omega);omega
   ·rw [decide_eq_false huv] at hls
    ((repeat' (first|(apply WL.opN;exact yF;dsimp only [ZB,z0,z1])|refine WL.nil ?_|refine ZA fun Kx hK=>?_|(refine hK _ _ ?_;clear hK)|refine WC.region ?_|(apply ZF;(focus (first|exact wN|(apply SYG.yes;(exact wY);((first|(exact ZJ4 e1 (by omega) (OpD.t rfl) (OpD.t rfl))|(exact ZGs (OpD.t rfl) rfl c1)|(exact ZGr (OpD.t rfl) c3)|(exact ZJQ (OpD.t rfl) OpD.x c2)|(exact ZAK (R:=RI) (_gR:=inferInstance) elI hml hu (OpD.t rfl) (OpD.t rfl))|(apply SY.call (hls) Tryz.call138;(exact aD))|((first|apply SY.move|apply SY.assign|apply SY.lss|apply SY.eql) <;> (exact oD))|fail);all_goals infer_instance))));dsimp only [ZB,z0,z1])|(apply Za;(exact oD);(with_reducible rfl))|(apply WC.condD;(exact oD);all_goals (intro h;try exact xD))|refine WC.skip ?_|refine WC.block ?_|refine ThenD.n ?_|refine InBlockD.n ?_));all_goals (first|((repeat clear hK);(repeat clear Kx))))
    all_goals try (exfalso;first|contradiction|omega)
    (refine ⟨(i,m),?_,by first|omega|(simp only;omega),rfl,?_⟩;rotate_left;((try dsimp only [ZQ,z0,z1]);repeat (first|exact LeF.nil|refine ZD (k:=?_)));(try dsimp only))
    refine ⟨by omega,by omega,h3,fun k hk hkm=>?_⟩
    by_cases e:k=m
    ·subst e;rw [hu];omega
    ·have:=ZG4 hx hml hk (by omega);omega
  ·have hijI:¬ (i:Int)<(j:Int):=by omega
   obtain rfl:i=j:=by omega
   by_cases hil:i<x.length
   ·have hilI:(i:Int)<(x.length:Int):=by omega
    obtain ⟨u,hu⟩:∃ u,x[i]=u:=⟨_,rfl⟩
    have hn1:=ZK8 u
    have hn2:=ZK8 v
    by_cases huv:u=v
    ·have hmem:v∈x:=by rw [<- huv,<- hu];exact List.getElem_mem hil
     rw [decide_eq_true hmem]
     ((repeat' (first|(apply WL.opN;exact yF;dsimp only [ZB,z0,z1])|refine WL.nil ?_|refine ZA fun Kx hK=>?_|(refine hK _ _ ?_;clear hK)|(refine Kont.skip ?_;clear hK)|refine WC.region ?_ |  (apply ZF;(focus (apply SYG.no;exact ZGm rfl rfl rfl));dsimp only [ZB,z0,z1])|(apply ZF;(focus (first|exact wN|(apply SYG.yes;(exact wY);((first|(exact ZAK (R:=RI) (_gR:=inferInstance) elI hil hu (OpD.t rfl) (OpD.t rfl))|((first|apply SY.move|apply SY.assign|apply SY.lss|apply SY.eql) <;> (exact oD))|(apply SY.load;(exact tD);(exact oD))|(apply Zn;(exact oD);(with_reducible rfl);(exact oD))|fail);all_goals infer_instance))));dsimp only [ZB,z0,z1])|((first|refine ZM rfl rfl rfl (fun h=>?_) (fun h=>?_)|refine ZL rfl rfl rfl (fun h=>?_) (fun h=>?_)|refine ZK rfl rfl rfl (fun h=>?_) (fun h=>?_)) <;> (first|(exfalso;first|omega|contradiction)|(dsimp only [z0,z1])))|(apply WC.condD;(exact oD);all_goals (intro h;try exact xD))|refine WC.ret ?_|refine WC.exit ?_));all_goals (first|((repeat clear hK);(repeat clear Kx))))
     all_goals try (exfalso;first|contradiction|omega)
     (refine ⟨trivial,⟨_,rfl,FinD.le (ZDK _)⟩,_,rfl,FinD.b ?_⟩;first|rfl|simp [hmem])
    ·have hmem:v∉x:=fun q=>by
      obtain ⟨k,hk,e⟩:=List.getElem_of_mem q
      rcases Nat.lt_trichotomy k i with h|h|h
      ·have:=h3 k hk h;omega
      ·subst h;exact huv (hu ▸ e)
      ·have:=ZG4 hx hil hk h
       have:=h4 i hil (Nat.le_refl _)
       omega
     rw [decide_eq_false hmem]
     ((repeat' (first|(apply WL.opN;exact yF;dsimp only [ZB,z0,z1])|refine WL.nil ?_|refine ZA fun Kx hK=>?_|(refine hK _ _ ?_;clear hK)|(refine Kont.skip ?_;clear hK)|refine WC.region ?_|(apply ZF;(focus (first|exact wN|(apply SYG.yes;(exact wY);((first|(exact ZAK (R:=RI) (_gR:=inferInstance) elI hil hu (OpD.t rfl) (OpD.t rfl))|(apply SY.call (hn1) Tryz.call139;(exact aD))|((first|apply SY.move|apply SY.assign|apply SY.lss|apply SY.eql) <;> (exact oD))|(apply SY.load;(exact tD);(exact oD))|(apply Zn;(exact oD);(with_reducible rfl);(exact oD))|(apply Zj;(exact oD);(with_reducible rfl);(exact oD))|fail);all_goals infer_instance))));dsimp only [ZB,z0,z1])|((first|refine ZM rfl rfl rfl (fun h=>?_) (fun h=>?_)|refine ZL rfl rfl rfl (fun h=>?_) (fun h=>?_)|refine ZK rfl rfl rfl (fun h=>?_) (fun h=>?_)) <;> (first|(exfalso;first|omega|contradiction)|(dsimp only [z0,z1])))|(apply WC.condD;(exact oD);all_goals (intro h;try exact xD))|refine WC.ret ?_|refine WC.exit ?_));all_goals (first|((repeat clear hK);(repeat clear Kx))))
     all_goals try (exfalso;first|contradiction|omega)
     (refine ⟨trivial,⟨_,rfl,FinD.le (ZDK _)⟩,_,rfl,FinD.b ?_⟩;first|rfl|simp [hmem])
   ·have hilI:¬ (i:Int)<(x.length:Int):=by omega
    have hmem:v∉x:=fun q=>by
     obtain ⟨k,hk,e⟩:=List.getElem_of_mem q
     have:=h3 k hk (by omega)
     omega
    rw [decide_eq_false hmem]
    ((repeat' (first|(apply WL.opN;exact yF;dsimp only [ZB,z0,z1])|refine WL.nil ?_|refine ZA fun Kx hK=>?_|(refine hK _ _ ?_;clear hK)|(refine Kont.skip ?_;clear hK)|refine WC.region ?_ |  (apply ZF;(focus (apply SYG.no;exact ZGm rfl rfl rfl));dsimp only [ZB,z0,z1])|(apply ZF;(focus (first|exact wN|(apply SYG.yes;(exact wY);((first|((first|apply SY.move|apply SY.assign|apply SY.lss|apply SY.eql) <;> (exact oD))|(apply Zj;(exact oD);(with_reducible rfl);(exact oD))|fail);all_goals infer_instance))));dsimp only [ZB,z0,z1])|((first|refine ZM rfl rfl rfl (fun h=>?_) (fun h=>?_)|refine ZL rfl rfl rfl (fun h=>?_) (fun h=>?_)|refine ZK rfl rfl rfl (fun h=>?_) (fun h=>?_)) <;> (first|(exfalso;first|omega|contradiction)|(dsimp only [z0,z1])))|(apply WC.condD;(exact oD);all_goals (intro h;try exact xD))|refine WC.ret ?_|refine WC.exit ?_));all_goals (first|((repeat clear hK);(repeat clear Kx))))
    all_goals try (exfalso;first|contradiction|omega)
    (refine ⟨trivial,⟨_,rfl,FinD.le (ZDK _)⟩,_,rfl,FinD.b ?_⟩;first|rfl|simp [hmem])
theorem ZRj (x:List Int) (v:Int) (hx:L05.Asc x) (hl:x.length≤1000000):Fn Tryz.prog 124 [dS ZBk x,dI v] (dB (decide (v∈x))):=by
 have h:=ZRS x v hx hl
 (refine ZG Tryz.func124 rfl rfl ?_;simp only [Tryz.ntmps124,List.length_cons,List.length_nil,Nat.reduceAdd,Nat.reduceSub,List.replicate_succ,List.replicate_zero,List.cons_append,List.nil_append])
 ((repeat' (first|(apply WL.opN;exact yF;dsimp only [ZB,z0,z1])|refine WL.nil ?_|refine ZA fun Kx hK=>?_|(refine hK _ _ ?_;clear hK)|refine WC.region ?_|(apply WL.opN;(focus ((first|(apply SY.call (h) Tryz.call135;(exact aD))|(apply SY.extract;(exact oD);rfl)|fail);all_goals infer_instance));dsimp only [ZB,z0,z1])|refine WC.ret ?_));all_goals (first|((repeat clear hK);(repeat clear Kx))))
 all_goals try (exfalso;first|contradiction|omega)
 (refine ⟨trivial,_,rfl,?_⟩;exact fD)
structure VecI (n:Int) (x:List Int):Prop where
 asc:L05.Asc x
 rng:∀ v∈x,0≤v/\v<n
set_option maxHeartbeats 8000000 in
theorem ZSJ (x:List Int) (n:Int) (h:VecI n x) (hl:x.length≤1000000):Fn Tryz.prog 120 [dS ZBk x,dI n] (dI 0):=by
 (refine ZG Tryz.func120 rfl rfl ?_;simp only [Tryz.ntmps120,List.length_cons,List.length_nil,Nat.reduceAdd,Nat.reduceSub,List.replicate_succ,List.replicate_zero,List.cons_append,List.nil_append])
 (repeat' (first|(apply WL.opN;exact yF;dsimp only [ZB,z0,z1])|refine WL.nil ?_|refine ZA fun Kx hK=>?_|(refine hK _ _ ?_;clear hK)|refine WC.region ?_|(apply ZF;(focus (first|exact wN|(apply SYG.yes;(exact wY);((first|(apply SY.len;(exact oD);(exact nD);(exact uD))|fail);all_goals infer_instance))));dsimp only [ZB,z0,z1])|refine WC.block ?_))
 all_goals try (exfalso;first|contradiction|omega)
 (refine ZH (X:=Nat) (fun k=>[(9,dI (k:Int)),(4,dA),(5,dA),(6,dA),(10,dA),(11,dA),(12,dA),(13,dA),(14,dA),(15,dA),(16,dA),(17,dA),(18,dA),(19,dA),(20,dA),(21,dA),(22,dA),(23,dA),(24,dA),(25,dA),(26,dA),(27,dA),(28,dA),(29,dA),(30,dA),(31,dA),(32,dA),(33,dA),(34,dA)]) (fun k=>[]) (fun k=>x.length-k) (fun k=>k≤x.length) 0 ?start ?frame0 ?objs0 ?round)
 case start=>exact Nat.zero_le _
 case frame0=>((try dsimp only [ZQ,z0,z1]);repeat (first|exact LeF.nil|refine ZD (k:=?_)))
 case objs0=>rfl
 case round =>
  rintro k hk
  dsimp only [ZQ,z0,z1]
  by_cases hkl:k<x.length
  ·have hlt:(k:Int)<(x.length:Int):=by omega
   obtain ⟨v,hv⟩:∃ v,x[k]=v:=⟨_,rfl⟩
   have hvr:=h.rng v (by rw [<- hv];exact List.getElem_mem hkl)
   have hv0:¬ v<0:=by omega
   have hvn:¬ v ≥ n:=by omega
   by_cases hk0:k=0
   ·have hk0I:¬ (k:Int)>0:=by omega
    ((repeat' (first|(apply WL.opN;exact yF;dsimp only [ZB,z0,z1])|refine WL.nil ?_|refine ZA fun Kx hK=>?_|(refine hK _ _ ?_;clear hK)|refine WC.region ?_|(apply ZF;(focus (first|exact wN|(apply SYG.yes;(exact wY);((first|(exact ZAK (R:=RI) (_gR:=inferInstance) elI hkl hv (OpD.t rfl) (OpD.t rfl))|((first|apply SY.move|apply SY.assign|apply SY.lss|apply SY.gtr|apply SY.geq) <;> (exact oD))|((first|apply SY.add|apply SY.sub) <;> first|exact oD|omega)|(apply Zj;(exact oD);(with_reducible rfl);(exact oD))|fail);all_goals infer_instance))));dsimp only [ZB,z0,z1])|((first|refine ZM rfl rfl rfl (fun h=>?_) (fun h=>?_)|refine ZL rfl rfl rfl (fun h=>?_) (fun h=>?_)|refine ZK rfl rfl rfl (fun h=>?_) (fun h=>?_)) <;> (first|(exfalso;first|omega|contradiction)|(dsimp only [z0,z1])))|(apply Za;(exact oD);(with_reducible rfl))|(apply WC.condD;(exact oD);all_goals (intro h;try exact xD))|refine WC.skip ?_|refine WC.block ?_|refine ThenD.n ?_));all_goals (first|((repeat clear hK);(repeat clear Kx))))
    all_goals try (exfalso;first|contradiction|omega)
    (refine ⟨k+1,?_,by first|omega|(simp only;omega),rfl,?_⟩;rotate_left;((try dsimp only [ZQ,z0,z1]);repeat (first|exact LeF.nil|refine ZD (k:=?_)));(try dsimp only))
    omega
   ·have hk0I:(k:Int)>0:=by omega
    obtain ⟨j,hj⟩:∃ j,j+1=k:=⟨k-1,by omega⟩
    have hjl:j<x.length:=by omega
    have e1:(k:Int)-1=(j:Int):=by omega
    obtain ⟨u,hu⟩:∃ u,x[j]=u:=⟨_,rfl⟩
    have huv:¬ u ≥ v:=by
     have:=ZG4 h.asc hjl hkl (by omega)
     omega
    ((repeat' (first|(apply WL.opN;exact yF;dsimp only [ZB,z0,z1])|refine WL.nil ?_|refine ZA fun Kx hK=>?_|(refine hK _ _ ?_;clear hK)|refine WC.region ?_|(apply ZF;(focus (first|exact wN|(apply SYG.yes;(exact wY);((first|(exact ZAK (R:=RI) (_gR:=inferInstance) elI hkl hv (OpD.t rfl) (OpD.t rfl))|(exact ZO2 e1 (by omega) (OpD.t rfl) OpD.i)|(exact ZAK (R:=RI) (_gR:=inferInstance) elI hjl hu (OpD.t rfl) (OpD.t rfl))|((first|apply SY.move|apply SY.assign|apply SY.lss|apply SY.gtr|apply SY.geq) <;> (exact oD))|((first|apply SY.add|apply SY.sub) <;> first|exact oD|omega)|(apply SY.load;(exact tD);(exact oD))|(apply Zn;(exact oD);(with_reducible rfl);(exact oD))|(apply Zj;(exact oD);(with_reducible rfl);(exact oD))|fail);all_goals infer_instance))));dsimp only [ZB,z0,z1])|((first|refine ZM rfl rfl rfl (fun h=>?_) (fun h=>?_)|refine ZL rfl rfl rfl (fun h=>?_) (fun h=>?_)|refine ZK rfl rfl rfl (fun h=>?_) (fun h=>?_)) <;> (first|(exfalso;first|omega|contradiction)|(dsimp only [z0,z1])))|(apply WC.condD;(exact oD);all_goals (intro h;try exact xD))|refine WC.skip ?_|refine WC.block ?_|refine ThenD.n ?_));all_goals (first|((repeat clear hK);(repeat clear Kx))))
    all_goals try (exfalso;first|contradiction|omega)
    (refine ⟨k+1,?_,by first|omega|(simp only;omega),rfl,?_⟩;rotate_left;((try dsimp only [ZQ,z0,z1]);repeat (first|exact LeF.nil|refine ZD (k:=?_)));(try dsimp only))
    omega
  ·have hlt:¬ (k:Int)<(x.length:Int):=by omega
   ((repeat' (first|(apply WL.opN;exact yF;dsimp only [ZB,z0,z1])|refine WL.nil ?_|refine ZA fun Kx hK=>?_|(refine hK _ _ ?_;clear hK)|(refine Kont.skip ?_;clear hK)|refine WC.region ?_|(apply ZF;(focus (first|exact wN|(apply SYG.yes;(exact wY);((first|((first|apply SY.move|apply SY.assign|apply SY.lss|apply SY.gtr|apply SY.geq) <;> (exact oD))|fail);all_goals infer_instance))));dsimp only [ZB,z0,z1])|(apply WC.condD;(exact oD);all_goals (intro h;try exact xD))|refine WC.ret ?_|refine WC.exit ?_));all_goals (first|((repeat clear hK);(repeat clear Kx))))
   all_goals try (exfalso;first|contradiction|omega)
   (refine ⟨trivial,_,rfl,?_⟩;exact fD)
set_option maxHeartbeats 8000000 in
theorem ZMv (C:Int) (rows:List (List Int)) (hC:0≤C/\C≤4096) (hl:rows.length≤4096) (hrw:∀ r∈rows,VecI C r/\r.length≤1000000):Fn Tryz.prog 89 [dS Mat (C,rows)] (dI 0):=by
 have hC1:¬ C<0:=by omega
 have hC2:¬ C>4096:=by omega
 have hlI:¬ (rows.length:Int)>4096:=by omega
 (refine ZG Tryz.func89 rfl rfl ?_;simp only [Tryz.ntmps89,List.length_cons,List.length_nil,Nat.reduceAdd,Nat.reduceSub,List.replicate_succ,List.replicate_zero,List.cons_append,List.nil_append])
 (repeat' (first|(apply WL.opN;exact yF;dsimp only [ZB,z0,z1])|refine WL.nil ?_|refine ZA fun Kx hK=>?_|(refine hK _ _ ?_;clear hK)|refine WC.region ?_|(apply ZF;(focus (first|exact wN|(apply SYG.yes;(exact wY);((first|(apply ZE3 ZRx;exact OpD.t rfl)|(apply ZGt ZRx;exact OpD.t rfl)|((first|apply SY.move|apply SY.assign|apply SY.lss|apply SY.gtr|apply SY.neq) <;> (exact oD))|(apply SY.load;(exact tD);(exact oD))|(apply SY.len;(exact oD);(exact nD);(exact uD))|(apply Zj;(exact oD);(with_reducible rfl);(exact oD))|(apply SY.box;(exact oD);(exact hD))|fail);all_goals infer_instance))));dsimp only [ZB,z0,z1])|((first|refine ZM rfl rfl rfl (fun h=>?_) (fun h=>?_)|refine ZL rfl rfl rfl (fun h=>?_) (fun h=>?_)|refine ZK rfl rfl rfl (fun h=>?_) (fun h=>?_)) <;> (first|(exfalso;first|omega|contradiction)|(dsimp only [z0,z1])))|(apply WC.condD;(exact oD);all_goals (intro h;try exact xD))|refine WC.skip ?_|refine WC.block ?_))
 all_goals try (exfalso;first|contradiction|omega)
 (refine ZH (X:=Nat) (fun k=>[(23,dI (k:Int)),(2,dA),(4,dA),(5,dA),(24,dA),(25,dA),(26,dA),(27,dA),(28,dA),(29,dA),(30,dA),(31,dA),(32,dA),(33,dA),(34,dA)]) (fun k=>[]) (fun k=>rows.length-k) (fun k=>k≤rows.length) 0 ?start ?frame0 ?objs0 ?round)
 case start=>exact Nat.zero_le _
 case frame0=>((try dsimp only [ZQ,z0,z1]);repeat (first|exact LeF.nil|refine ZD (k:=?_)))
 case objs0=>rfl
 case round =>
  rintro k hk
  dsimp only [ZQ,z0,z1]
  by_cases hkl:k<rows.length
  ·have hlt:(k:Int)<(rows.length:Int):=by omega
   obtain ⟨r,hr⟩:∃ r,rows[k]=r:=⟨_,rfl⟩
   have hv:=ZSJ r C (hrw r (by rw [<- hr];exact List.getElem_mem hkl)).1 (hrw r (by rw [<- hr];exact List.getElem_mem hkl)).2
   ((repeat' (first|(apply WL.opN;exact yF;dsimp only [ZB,z0,z1])|refine WL.nil ?_|refine ZA fun Kx hK=>?_|(refine hK _ _ ?_;clear hK)|refine WC.region ?_|(apply ZF;(focus (first|exact wN|(apply SYG.yes;(exact wY);((first|(apply ZE3 ZRx;exact OpD.t rfl)|(exact ZAK (R:=ZBk) (_gR:=inferInstance) ZHw hkl hr (OpD.t rfl) (OpD.t rfl))|(apply SY.call (hv) Tryz.call120;(exact aD))|((first|apply SY.move|apply SY.assign|apply SY.lss|apply SY.gtr|apply SY.neq) <;> (exact oD))|((first|apply SY.add) <;> first|exact oD|omega)|fail);all_goals infer_instance))));dsimp only [ZB,z0,z1])|(apply WC.condD;(exact oD);all_goals (intro h;try exact xD))|(apply WC.condN;(exact oD);all_goals (intro h;try exact xD))|refine WC.skip ?_|refine WC.block ?_|refine ThenD.n ?_));all_goals (first|((repeat clear hK);(repeat clear Kx))))
   all_goals try (exfalso;first|contradiction|omega)
   (refine ⟨k+1,?_,by first|omega|(simp only;omega),rfl,?_⟩;rotate_left;((try dsimp only [ZQ,z0,z1]);repeat (first|exact LeF.nil|refine ZD (k:=?_)));(try dsimp only))
   omega
  ·have hlt:¬ (k:Int)<(rows.length:Int):=by omega
   ((repeat' (first|(apply WL.opN;exact yF;dsimp only [ZB,z0,z1])|refine WL.nil ?_|refine ZA fun Kx hK=>?_|(refine hK _ _ ?_;clear hK)|(refine Kont.skip ?_;clear hK)|refine WC.region ?_|(apply ZF;(focus (first|exact wN|(apply SYG.yes;(exact wY);((first|((first|apply SY.move|apply SY.assign|apply SY.lss|apply SY.gtr|apply SY.neq) <;> (exact oD))|fail);all_goals infer_instance))));dsimp only [ZB,z0,z1])|(apply WC.condD;(exact oD);all_goals (intro h;try exact xD))|refine WC.ret ?_|refine WC.exit ?_));all_goals (first|((repeat clear hK);(repeat clear Kx))))
   all_goals try (exfalso;first|contradiction|omega)
   (refine ⟨trivial,_,rfl,?_⟩;exact fD)
end
section
open Go.RowKit
theorem ZL9 {α β:Type} {R:Rel α} {S:Rel β} [Good R] [Good S] {p:α × β}:(dS (R2 R S) p).le (ZKR [dS R p.1,dS S p.2]):=fun _ _ _ h=>by
 obtain ⟨u,u',rfl,h0,h0',h1,h2⟩:=h
 exact ⟨[u,u'],rfl,rfl,fun c hc=>by
  simp only [List.mem_cons,List.not_mem_nil,or_false] at hc
  rcases hc with rfl|rfl <;> assumption,fun k c d hc hd=>by
  match k,hc,hd with
  | 0,hc,hd=>cases hc;cases hd;exact h1
  | 1,hc,hd=>cases hc;cases hd;exact h2⟩
theorem ZG2 {α β:Type} {R:Rel α} {S:Rel β} [Good R] [Good S] {x:α} {y:β}:(ZKR [dS R x,dS S y]).le (dS (R2 R S) (x,y)):=fun _ _ _ h=>by
 obtain ⟨cs,rfl,hl,h3,h4⟩:=h
 match cs,hl with
 | [u,u'],_=>exact ⟨u,u',rfl,h3 u (by simp),h3 u' (by simp),h4 0 u _ rfl rfl,h4 1 u' _ rfl rfl⟩
theorem ZAa {u v:Value} (h0:u.oneCell'=true) (h1:v.oneCell'=true):(dX (.agg #[u,v])).Shape 2 true:=fun _ _ _ h=>by
 cases (h:_=_)
 exact ⟨[u,v],rfl,by decide,fun c hc=>by
  simp only [List.mem_cons,List.not_mem_nil,or_false] at hc
  rcases hc with rfl|rfl <;> assumption,rfl,rfl⟩
section
variable {P:Program} {ops:Array Oper} {hp:List HObj} {fr:List Dat} {d:Dat} {Q:ZAE} {rest:List Oper} {b:Nat} {T:TypeId}
structure Halt5 (p:Prop):Prop where
 go:p
theorem WC.only5 (id:Nat) {l:Array Oper} {m:Bool} (h:WC P Q (.region id l m) fr hp):WC P Q (.region id l m) fr hp:=h
theorem ZO9 {ds:List Dat} (h:WL P ops Q rest fr (ZBd b T ds::hp)):WL P ops Q rest fr (ZO b T ds.length true (ZKR ds)::hp):=WL.of fun P0 B w0 w a hh hf=>by
 obtain ⟨cs,u,c1,c2,c0,c3,c4,c5⟩:=hh.ok (ZO b T ds.length true (ZKR ds)) (by simp)
 obtain ⟨cs',k1,k2,k3,k4⟩:=c5
 simp only [if_true] at c4
 rw [k1] at c4
 have hcs:cs'=cs:=by injection c4 with c4;exact List.toArray_inj c4
 subst hcs
 have hgr:w.grownBy w (ZO b T ds.length true (ZKR ds)).blk:=⟨rfl,rfl,rfl,Nat.le_refl _,fun _ _ _=>rfl⟩
 have hok:(ZBd b T ds).ok (fun k=>Imm P0 B (ZO b T ds.length true (ZKR ds)::hp) k/\k<w.heap.size) w:=⟨cs',c1,k2,k3,fun k c d hc hd=>d.bound (k4 k c d hc hd)⟩
 exact h.on (hh.write hgr (.inl rfl) hok) (hf.mono fun _ _ hd=>ZN (o':=ZBd b T ds) hgr (.inl rfl) hd)
end
section
variable {P:Program} {f:FuncId} {fn:Func} {c:Code} {ds:List Dat} {hp1:List HObj} {K:Dat->List HObj->Prop}
def ZSp (t:Nat) (n:Nat) (agg:Bool) (K:Dat->List HObj->Prop) (hp:List HObj):ZAE:=fun e f q=>(match e with|.normal|.ret=>True|_=>False)/\∃ d hp2,f[t]?=some (dP n agg d)/\q=hp2++hp/\K d hp2
theorem ZGo {t:Tmp} {T:TypeId} {n:Nat} {agg:Bool} (T':TyI P T n agg) (hf:P.funcs[f]?=some fn) (hb:fn.body=some c) (hr:fn.results=#[.cell t T])
  (h:∀ hp,WC P (ZSp t n agg K hp) c (ds++List.replicate (fn.ntmps-ds.length) (dX undef)) (hp1++hp)):CallC P f ds hp1 K:=⟨fun P0 B w0 hp vs W hh hl hv=>by
 refine calls_of_wp hf hb ?_
 have hf0:=ZBF (m:=fn.ntmps-ds.length) hl hv
 have hsz:vs.toArray.size=ds.length:=by simp [hl]
 rw [hsz]
 refine Code.wp_mono (fun e a' w' ⟨f',p',q,hh',hf'⟩=>?_) ((h hp).on hh hf0)
 obtain ⟨hx,d',hp2,hd',rfl,hk'⟩:=q
 obtain ⟨b,off,u,h1,h2,h3⟩:=hf'.rd t _ hd'
 cases e with
 | normal=>exact ⟨hf'.defers,_,ZBH T' hr h1 h2,_,_,hp2,rfl,hk',hh',h3⟩
 | ret=>exact ⟨hf'.defers,_,ZBH T' hr h1 h2,_,_,hp2,rfl,hk',hh',h3⟩
 | _=>exact hx.elim⟩
end
end
end Go.Proofs.YtokmalofdapffaaGreat
namespace Go.Proofs.YtokmalofdapffaaGreat.C34
section

variable {α:Type}
theorem asc_range {x:List Int} {n:Nat} (h:L05.Asc x) (hr:∀ i∈x,0≤i/\i<n):x=((List.range n).filter fun i:Nat=>decide ((i:Int)∈x)).map fun i:Nat=>(i:Int):=by
 refine L05.asc_ext h ?_ fun i=>?_
 ·show List.Pairwise _ _
  rw [List.pairwise_map]
  exact (List.pairwise_lt_range.filter _).imp fun h=>by omega
 ·rw [List.mem_map]
  constructor
  ·intro hi
   obtain ⟨h1,h2⟩:=hr i hi
   refine ⟨i.toNat,List.mem_filter.2 ⟨List.mem_range.2 (by omega),decide_eq_true ?_⟩,by omega⟩
   rw [Int.toNat_of_nonneg h1];exact hi
  ·rintro ⟨j,hj,rfl⟩
   exact of_decide_eq_true (List.mem_filter.1 hj).2
end
end Go.Proofs.YtokmalofdapffaaGreat.C34
