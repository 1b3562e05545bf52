/- Part 27: walks by contracts, and plain laws. -/
import Derived.Test.YtokmalofdapffaaGreatV23
import Derived.Test.YtokmalofdapffaaGreatV26
set_option linter.unusedVariables false
set_option linter.unusedSimpArgs false
set_option linter.unusedSectionVars false
set_option maxRecDepth 100000
set_option maxHeartbeats 4000000
namespace Go.Proofs.YtokmalofdapffaaGreat
section
open Go.RowKit

abbrev ZSg:Dat:=ZKS Tryz.prog (fun x:List Vx × List Vx=>[dS ZJ x.1,dS ZJ x.2]) (fun x=>dI (ZAB x.1 x.2))
theorem ZRs:(dX (.func (.func 35) #[] #[])).le ZSg:=ZIq Tryz.call35 fun x=>ZDg x.1 x.2
def ZQ8 (vs:Cx) (v:List Vx):Nat:=(vs.filter fun u=>decide (ZAB u v<0)).length
theorem ZN3 {vs:Cx} {v:List Vx} {i:Nat} (hi:i≤vs.length) (h1:∀ k (h:k<vs.length),k<i->ZAB vs[k] v<0) (h2:∀ k (h:k<vs.length),i≤k->¬ ZAB vs[k] v<0):ZQ8 vs v=i:=by
 unfold ZQ8
 have e:vs=vs.take i++vs.drop i:=(List.take_append_drop i vs).symm
 rw [e,List.filter_append,List.length_append]
 have a1:(vs.take i).filter (fun u=>decide (ZAB u v<0))=vs.take i:=by
  rw [List.filter_eq_self]
  intro u hu
  obtain ⟨k,hk,rfl⟩:=List.getElem_of_mem hu
  rw [List.length_take] at hk
  rw [List.getElem_take]
  exact decide_eq_true (h1 k (by omega) (by omega))
 have a2:(vs.drop i).filter (fun u=>decide (ZAB u v<0))=[]:=by
  rw [List.filter_eq_nil_iff]
  intro u hu
  obtain ⟨k,hk,rfl⟩:=List.getElem_of_mem hu
  rw [List.length_drop] at hk
  rw [List.getElem_drop,decide_eq_true_eq]
  exact h2 (i+k) (by omega) (by omega)
 rw [a1,a2,List.length_take,List.length_nil]
 omega
theorem ZMo {vs:Cx} (ha:AscL vs) {v:List Vx} {k m:Nat} (hk:k<m) (hm:m<vs.length) (h:ZAB vs[m] v<0):ZAB (vs[k]'(by omega)) v<0 :=
 ZAs (List.pairwise_iff_getElem.1 ha k m (by omega) hm hk) h
theorem endS {vs:Cx} (ha:AscL vs) {v:List Vx} {i:Nat} (h3:∀ k (h:k<vs.length),k<i->ZAB vs[k] v<0) (h4:∀ k (h:k<vs.length),i≤k->¬ ZAB vs[k] v<0) (hv:v∈vs):∃ h:i<vs.length,vs[i]=v:=by
 obtain ⟨k,hk,e⟩:=List.getElem_of_mem hv
 have h0:ZAB vs[k] v=0:=ZA2.2 e
 have hik:i≤k:=Nat.le_of_not_lt fun q=>by have:=h3 k hk q;omega
 refine ⟨by omega,?_⟩
 by_cases he:i=k
 ·subst he;exact e
 ·exfalso
  have h5:=h4 i (by omega) (Nat.le_refl _)
  have h6:=List.pairwise_iff_getElem.1 ha i k (by omega) hk (by omega)
  rw [e] at h6
  exact h5 h6
theorem ZQM {vs:Cx} (ha:AscL vs) {v:List Vx} (hv:v∈vs):∃ h:ZQ8 vs v<vs.length,vs[ZQ8 vs v]=v:=by
 obtain ⟨k,hk,rfl⟩:=List.getElem_of_mem hv
 have hp:ZQ8 vs vs[k]=k:=by
  refine ZN3 (Nat.le_of_lt hk) (fun m hm hlt=>List.pairwise_iff_getElem.1 ha m k hm hk hlt) (fun m hm hle hlt=>?_)
  rcases Nat.lt_or_ge k m with q|q
  ·have h1:=List.pairwise_iff_getElem.1 ha k m hk hm q
   have h2:=ZCg vs[k] vs[m]
   omega
  ·have:k=m:=by omega
   subst this
   rw [ZBE] at hlt
   omega
 simp only [hp]
 exact ⟨hk,trivial⟩
set_option maxHeartbeats 8000000 in
theorem bsS_p (vs:Cx) (v:List Vx) (ha:AscL vs) (hl:vs.length≤1000000):Fn Tryz.prog 119 [dS ZBN vs,dS ZJ v,ZSg] (dT [dI (ZQ8 vs v:Int),dB (decide (v∈vs))]):=by
 (refine Z7 Tryz.func119 rfl rfl ?_;simp only [Tryz.ntmps119,List.length_cons,List.length_nil,Nat.reduceAdd,Nat.reduceSub,List.replicate_succ,List.replicate_zero,List.cons_append,List.nil_append])
 (repeat' (first|(apply WL.opN;exact yF;dsimp only [ZB,z0,z1])|refine WL.nil ?_|refine ZA fun Kx hK=>?_|(refine hK _ _ ?_;clear hK)|refine WC.region ?_|(apply ZF;(focus (first|exact wN|(apply SYG.yes;(exact wY);((first|(apply SY.len;(exact oD);(exact nD);(exact uD))|fail);all_goals infer_instance))));dsimp only [ZB,z0,z1])|refine WC.block ?_))
 (refine ZH (X:=Nat × Nat) (fun x=>[(9,dI (x.1:Int)),(10,dI (x.2:Int)),(11,dA),(15,dA),(16,dA),(17,dA),(18,dA),(19,dA),(20,dA),(21,dA),(22,dA),(23,dA),(24,dA),(25,dA),(26,dA),(27,dA),(28,dA),(29,dA),(30,dA),(31,dA),(32,dA),(33,dA),(34,dA)]) (fun x=>[]) (fun x=>x.2-x.1) (fun x=>x.1≤x.2/\x.2≤vs.length/\(∀ k (h:k<vs.length),k<x.1->ZAB vs[k] v<0)/\(∀ k (h:k<vs.length),x.2≤k->¬ ZAB vs[k] v<0)) (0,vs.length) ?start ?frame0 ?objs0 ?round)
 case start=>exact ⟨Nat.zero_le _,Nat.le_refl _,fun k _ h=>by omega,fun k h1 h2=>by simp only at h2;omega⟩
 case frame0=>((try dsimp only [ZQ,z0,z1]);repeat (first|exact LeF.nil|refine ZD (k:=?_)))
 case objs0=>rfl
 case round =>
  rintro ⟨i,j⟩ ⟨h1,h2,h3,h4⟩
  simp only at h1 h2 h3 h4
  dsimp only [ZQ,z0,z1]
  by_cases hij:i<j
  ·have hm:(i+j) / 2<vs.length:=by omega
   ((repeat' (first|(apply WL.opN;exact yF;dsimp only [ZB,z0,z1])|refine WL.nil ?_|refine ZA fun Kx hK=>?_|(refine hK _ _ ?_;clear hK)|refine WC.region ?_|(apply ZF;(focus (first|exact wN|(apply SYG.yes;(exact wY);((first|(exact ZGs (n:=(i:Int)+(j:Int)) (OpD.t rfl) (u:=.int .i64 ((i+j:Nat):Int)) (by push_cast;rfl) (cvIW (i+j) (by omega)))|(exact ZJQ (OpD.t rfl) OpD.x (shrW (i+j) (by omega)))|(exact ZGr (OpD.t rfl) (cvWI ((i+j) / 2) (by omega)))|(refine SY.ix (R:=ZJ) (_gR:=inferInstance) ZDv (OpD.t rfl) (OpD.t rfl) hm)|(apply ZAu (x:=(vs[(i+j) / 2],v));(exact OpD.t rfl);(exact aD))|((first|apply SY.move|apply SY.assign|apply SY.lss|apply SY.eql) <;> (exact oD))|((first|apply SY.add) <;> first|exact oD|omega)|fail);all_goals infer_instance))));dsimp only [ZB,z0,z1])|(apply WC.condD;(exact oD);all_goals (intro h;try exact xD))|refine WC.skip ?_|refine WC.block ?_|refine ThenD.n ?_|refine InBlockD.n ?_));all_goals (first|((repeat clear hK);(repeat clear Kx))))
   all_goals try (exfalso;omega)
   ·(refine ⟨((i+j) / 2+1,j),?_,by first|omega|(simp only;omega),rfl,?_⟩;rotate_left;((try dsimp only [ZQ,z0,z1]);repeat (first|exact LeF.nil|refine ZD (k:=?_)));(try dsimp only))
    refine ⟨by omega,h2,fun k hk hlt=>?_,h4⟩
    by_cases hkm:k=(i+j) / 2
    ·subst hkm;exact h
    ·exact ZMo ha (by omega) hm h
   ·(refine ⟨(i,(i+j) / 2),?_,by first|omega|(simp only;omega),rfl,?_⟩;rotate_left;((try dsimp only [ZQ,z0,z1]);repeat (first|exact LeF.nil|refine ZD (k:=?_)));(try dsimp only))
    refine ⟨by omega,by omega,h3,fun k hk hle hlt=>?_⟩
    by_cases hkm:k=(i+j) / 2
    ·subst hkm;exact h hlt
    ·exact h (ZMo ha (by omega) hk hlt)
  ·have hie:i=j:=by omega
   subst hie
   have hp:=ZN3 h2 h3 h4
   have hb:=fun hv=>endS ha h3 h4 (v:=v) hv
   rw [hp]
   by_cases hi:i<vs.length
   ·have hd:decide (v∈vs)=decide (ZAB vs[i] v=0):=by
     rw [decide_eq_decide]
     constructor
     ·intro hv
      obtain ⟨_,e⟩:=hb hv
      rw [e];exact ZBE v
     ·intro e
      rw [<- ZA2.1 e]
      exact List.getElem_mem hi
    rw [hd]
    ((repeat' (first|(apply WL.opN;exact yF;dsimp only [ZB,z0,z1])|refine WL.nil ?_|refine ZA fun Kx hK=>?_|(refine hK _ _ ?_;clear hK)|(refine Kont.skip ?_;clear hK)|refine WC.region ?_|(apply ZF;(focus (first|exact wN|(apply SYG.yes;(exact wY);((first|(refine SY.ix (R:=ZJ) (_gR:=inferInstance) ZDv (OpD.t rfl) (OpD.t rfl) hi)|(apply ZAu (x:=(vs[i],v));(exact OpD.t rfl);(exact aD))|((first|apply SY.move|apply SY.assign|apply SY.lss|apply SY.eql) <;> (exact oD))|(apply SY.load;(exact tD);(exact oD))|(apply Zn;(exact oD);(with_reducible rfl);(exact oD))|fail);all_goals infer_instance))));dsimp only [ZB,z0,z1])|((first|refine ZM rfl rfl rfl (fun h=>?_) (fun h=>?_)|refine ZL rfl rfl rfl (fun h=>?_) (fun h=>?_)|refine ZK rfl rfl rfl (fun h=>?_) (fun h=>?_)) <;> (first|(exfalso;first|omega|contradiction)|(dsimp only [z0,z1])))|(apply WC.condD;(exact oD);all_goals (intro h;try exact xD))|refine WC.ret ?_|refine WC.exit ?_));all_goals (first|((repeat clear hK);(repeat clear Kx))))
    all_goals try (exfalso;omega)
    (refine ⟨trivial,⟨_,rfl,?_⟩,_,rfl,?_⟩ <;> (first|refine FinD.i ?_|refine FinD.b ?_)) <;> first|(rw [hp])|(rw [hd])
   ·have hd:decide (v∈vs)=false:=decide_eq_false fun hv=>hi (hb hv).1
    rw [hd]
    ((repeat' (first|(apply WL.opN;exact yF;dsimp only [ZB,z0,z1])|refine WL.nil ?_|refine ZA fun Kx hK=>?_|(refine hK _ _ ?_;clear hK)|(refine Kont.skip ?_;clear hK)|refine WC.region ?_|(apply ZF;(focus (first|exact wN|(apply SYG.yes;(exact wY);((first|((first|apply SY.move|apply SY.assign|apply SY.lss|apply SY.eql) <;> (exact oD))|(apply Zj;(exact oD);(with_reducible rfl);(exact oD))|fail);all_goals infer_instance))));dsimp only [ZB,z0,z1])|((first|refine ZM rfl rfl rfl (fun h=>?_) (fun h=>?_)|refine ZL rfl rfl rfl (fun h=>?_) (fun h=>?_)|refine ZK rfl rfl rfl (fun h=>?_) (fun h=>?_)) <;> (first|(exfalso;first|omega|contradiction)|(dsimp only [z0,z1])))|(apply WC.condD;(exact oD);all_goals (intro h;try exact xD))|refine WC.ret ?_|refine WC.exit ?_));all_goals (first|((repeat clear hK);(repeat clear Kx))))
    all_goals try (exfalso;omega)
    (refine ⟨trivial,⟨_,rfl,?_⟩,_,rfl,?_⟩ <;> (first|refine FinD.i ?_|refine FinD.b ?_)) <;> first|(rw [hp])|(rw [hd])
theorem ZRm (l:Cx) (s:List Vx) (ha:AscL l) (hl:l.length≤1000000):Fn Tryz.prog 88 [dS ZBN l,dS ZJ s] (dT [dI (ZQ8 l s:Int),dB (decide (s∈l))]):=by
 have hB:=bsS_p l s ha hl
 (refine Z7 Tryz.func88 rfl rfl ?_;simp only [Tryz.ntmps88,List.length_cons,List.length_nil,Nat.reduceAdd,Nat.reduceSub,List.replicate_succ,List.replicate_zero,List.cons_append,List.nil_append])
 ((repeat' (first|(apply WL.opN;exact yF;dsimp only [ZB,z0,z1])|refine WL.nil ?_|refine ZA fun Kx hK=>?_|(refine hK _ _ ?_;clear hK)|refine WC.region ?_|(apply WL.opN;(focus ((first|(apply SY.call hB Tryz.call119;exact ArgsD.cons (OpD.t rfl) (ArgsD.cons (OpD.t rfl) (ArgsD.cons ⟨ZRs⟩ ArgsD.nil)))|(apply SY.extract;(exact oD);rfl)|fail);all_goals infer_instance));dsimp only [ZB,z0,z1])|refine WC.ret ?_));all_goals (first|((repeat clear hK);(repeat clear Kx))))
 (refine ⟨trivial,⟨_,rfl,?_⟩,_,rfl,?_⟩ <;> exact fD)
def ZRc (l:Cx) (d:Int):Cx × Int:=if d<0 then ([],0) else ZBi l (d+1)
theorem ZNG (l:Cx) (d:Int) (hd : -100≤d/\d≤100):Fn Tryz.prog 86 [dS Cpx l,dI d] (dT [dS ZBN (ZRc l d).1,dI (ZRc l d).2]):=by
 have cS:=ZCn l (d+1)
 unfold ZRc
 by_cases h0:d<0
 ·rw [if_pos h0]
  (refine Z7 Tryz.func86 rfl rfl ?_;simp only [Tryz.ntmps86,List.length_cons,List.length_nil,Nat.reduceAdd,Nat.reduceSub,List.replicate_succ,List.replicate_zero,List.cons_append,List.nil_append])
  ((repeat' (first|(apply WL.opN;exact yF;dsimp only [ZB,z0,z1])|refine WL.nil ?_|refine ZA fun Kx hK=>?_|(refine hK _ _ ?_;clear hK)|refine WC.region ?_|(apply WL.opN;(focus ((first|((first|apply SY.move|apply SY.assign|apply SY.lss) <;> (exact oD))|(apply SY.box;(exact oD);(exact hD))|fail);all_goals infer_instance));dsimp only [ZB,z0,z1])|(apply WC.condD;(exact oD);all_goals (intro h;try exact xD))|refine WC.ret ?_|refine ThenD.r ?_));all_goals (first|((repeat clear hK);(repeat clear Kx))))
  all_goals try (exfalso;first|contradiction|omega)
  (refine ⟨trivial,⟨_,rfl,?_⟩,_,rfl,?_⟩ <;> exact fD)
 ·rw [if_neg h0]
  (refine Z7 Tryz.func86 rfl rfl ?_;simp only [Tryz.ntmps86,List.length_cons,List.length_nil,Nat.reduceAdd,Nat.reduceSub,List.replicate_succ,List.replicate_zero,List.cons_append,List.nil_append])
  ((repeat' (first|(apply WL.opN;exact yF;dsimp only [ZB,z0,z1])|refine WL.nil ?_|refine ZA fun Kx hK=>?_|(refine hK _ _ ?_;clear hK)|refine WC.region ?_|(apply WL.opN;(focus ((first|(apply SY.call (cS) Tryz.call38;(exact aD))|((first|apply SY.move|apply SY.assign|apply SY.lss) <;> (exact oD))|((first|apply SY.add) <;> first|exact oD|omega)|(apply SY.extract;(exact oD);rfl)|(apply SY.box;(exact oD);(exact hD))|fail);all_goals infer_instance));dsimp only [ZB,z0,z1])|(apply WC.condD;(exact oD);all_goals (intro h;try exact xD))|refine WC.skip ?_|refine WC.ret ?_));all_goals (first|((repeat clear hK);(repeat clear Kx))))
  all_goals try (exfalso;first|contradiction|omega)
  (refine ⟨trivial,⟨_,rfl,?_⟩,_,rfl,?_⟩ <;> exact fD)
theorem ZPp {s:List Vx} (h:1<s.length):(L05.facL s).length=s.length:=by
 unfold L05.facL
 rw [if_pos h,List.length_map,List.length_range]
theorem ZRe {s:List Vx} {i:Nat} (h:i<(L05.facL s).length):(L05.facL s)[i]=s.eraseIdx i:=by
 unfold L05.facL
 by_cases h1:1<s.length
 ·simp only [if_pos h1,List.getElem_map,List.getElem_range]
 ·exfalso
  unfold L05.facL at h
  rw [if_neg h1] at h
  exact Nat.not_lt_zero _ h
set_option maxHeartbeats 8000000 in
theorem ZRV (s:List Vx) (hs:s.length≤100) (v1:Value):SeqE Tryz.prog 117 [v1] [ZAW v1 (dP 1 false (dS ZJ s))] (fun x=>dS ZJ x) (L05.facL s):=⟨fun lb J E hY js hj=>by
 (refine ZCy Tryz.func117 rfl rfl (fun hp=>?_);simp only [Tryz.ntmps117,List.length_cons,List.length_nil,List.length_append,List.length_map,Nat.reduceAdd,Nat.reduceSub,List.replicate_succ,List.replicate_zero,List.cons_append,List.nil_append,List.map_cons,List.map_nil,List.append_assoc])
 refine ZFT (d:=dP 1 false (dS ZJ s)) 1 rfl (List.mem_append_right _ (.head _)) ?_
 dsimp only [z0,z1]
 obtain ⟨hq,hhq⟩:∃ hq,hq=ZAW v1 (dP 1 false (dS ZJ s))::hp:=⟨_,rfl⟩
 rw [<- hhq]
 (repeat' (first|((first|apply WL.opN|apply WD.opN);exact yF;dsimp only [ZB,z0,z1])|refine WL.nil ?_|refine ZA fun Kx hK=>?_|(refine hK _ _ ?_;clear hK)|refine WC.region ?_|((first|apply ZF|apply WD.op);(focus (first|exact wN|(apply SYG.yes;(exact wY);((first|(apply SY.len;(exact oD);(exact nD);(exact uD))|fail);all_goals infer_instance))));dsimp only [ZB,z0,z1])|refine WC.block ?_))
 (refine ZH (X:=Nat × List (List Vx) × List HObj) (fun x=>[(6,dI (x.1:Int)),(3,dA),(7,dA),(8,dA),(9,dA),(10,dA),(11,dA),(12,dA),(13,dA),(14,dA),(15,dA),(16,dA),(17,dA),(18,dA),(19,dA),(20,dA),(21,dA),(22,dA),(23,dA),(24,dA),(25,dA),(26,dA)]) (fun x=>(x.2.2++hq)) (fun x=>s.length-x.1) (fun x=>x.1≤s.length/\J x.2.1 x.2.2/\x.2.1=(L05.facL s).take x.1) (0,[],js) ?start ?frame0 ?objs0 ?round)
 case start=>exact ⟨Nat.zero_le _,hj,rfl⟩
 case frame0=>((try dsimp only [ZQ,z0,z1]);repeat (first|exact LeF.nil|refine ZD (k:=?_)))
 case objs0=>rfl
 case round =>
  rintro ⟨i,dn,js1⟩ ⟨q1,q2,q3⟩
  simp only at q1 q2 q3
  dsimp only [ZQ,z0,z1]
  by_cases hi:i<s.length
  ·have hiI:(i:Int)<(s.length:Int):=by omega
   by_cases h1:1<s.length
   ·have h1I:(s.length:Int)>1:=by omega
    have hl:=ZPp h1
    have hif:i<(L05.facL s).length:=by omega
    have hat:=ZRe hif
    have he:s.take i++s.drop (i+1)=s.eraseIdx i:=(List.eraseIdx_eq_take_drop_succ s i).symm
    have hln:(s.eraseIdx i).length=s.length-1:=List.length_eraseIdx_of_lt hi
    have cC:=ZPc [s.take i,s.drop (i+1)] (by simp only [List.flatten_cons,List.flatten_nil,List.append_nil];rw [he];omega) (by simp only [List.flatten_cons,List.flatten_nil,List.append_nil];rw [he];omega)
    simp only [List.flatten_cons,List.flatten_nil,List.append_nil] at cC
    rw [he,<- hat] at cC
    have hi1:i≤s.length:=by omega
    have hi2:i+1≤s.length:=by omega
    have e1:(i:Int)+1=((i+1:Nat):Int):=by push_cast;rfl
    have hlen:dn.length<(L05.facL s).length:=by rw [q3,List.length_take];omega
    have hsn:dn++[(L05.facL s)[i]]=(L05.facL s).take (i+1):=by rw [q3,List.take_succ_eq_append_getElem hif]
    ((repeat' (first |  (apply I.WC.drawTail 14;kernel_rfl;kernel_rfl;simp only [List.take_succ_cons,List.take_zero,List.drop_succ_cons,List.drop_zero])|((first|apply WL.opN|apply WD.opN);exact yF;dsimp only [ZB,z0,z1])|refine WL.nil ?_|refine WD.nil ?_|refine ZA fun Kx hK=>?_|(refine hK _ _ ?_;clear hK)|refine WC.region ?_ |  (refine I.ZIL (pre:=dn) (y:=(L05.facL s)[i]) rfl rfl hY hlen q2 (OpD.t rfl) (OpD.t rfl) fun b js3 hj3=>?_;dsimp only [ZB,z0,z1];refine I.ZF (.inl ⟨ZBb rfl rfl rfl rfl,SY.not (OpD.t rfl)⟩) ?_;dsimp only [ZB,z0,z1];refine I.WL.op rfl (Zn (OpD.t rfl) rfl (OpD.t rfl)) ?_;dsimp only [ZB,z0,z1];refine I.WL.nil ?_;cases b <;> simp only [Bool.not_true,Bool.not_false] at hj3 ⊢)|((first|apply ZF|apply WD.op);(focus (first|exact wN|(apply SYG.yes;(exact wY);((first|(apply SY.load;exact ZJO;exact OpD.t rfl)|(refine ZGw elV (R:=RV) (_gR:=inferInstance) (xs:=s) (OpD.t rfl) (OpD.t rfl) i rfl hi1)|(refine ZGu elV (R:=RV) (_gR:=inferInstance) (xs:=s) (OpD.t rfl) (OpD.t rfl) (i+1) e1 hi2)|(apply SY.call (cC) Tryz.call118;(exact aD))|((first|apply SY.move|apply SY.assign|apply SY.lss|apply SY.gtr|apply SY.not) <;> (exact oD))|((first|apply SY.add) <;> first|exact oD|omega)|(apply SY.len;(exact oD);(exact nD);(exact uD))|(apply SY.build1';(exact eD);((try simp only [List.map_cons,List.map_nil]);(repeat (first|exact Zu|(apply Zt;(first|exact OpD.t rfl|exact OpD.i|exact OpD.b|exact OpD.tle rfl (by first|exact ZE|exact ZC (by decide))|exact ⟨ZE⟩|exact ⟨ZC (by decide)⟩)))));rfl;rfl;(intro _;first|exact ZAU|exact ZAc|exact ZAh|exact shape_B);(exact (by simp)))|fail);all_goals infer_instance))));dsimp only [ZB,z0,z1])|((first|refine ZM rfl rfl rfl (fun h=>?_) (fun h=>?_)|refine ZL rfl rfl rfl (fun h=>?_) (fun h=>?_)|refine ZK rfl rfl rfl (fun h=>?_) (fun h=>?_)|refine Zp rfl rfl rfl (fun h=>?_) (fun h=>?_)|refine Zo rfl rfl rfl (fun h=>?_) (fun h=>?_)|refine Zl rfl rfl rfl (fun h=>?_) (fun h=>?_)) <;> (first|(exfalso;first|omega|contradiction)|(dsimp only [z0,z1])))|(apply Z0;(exact oD);(with_reducible rfl))|(apply Za;(exact oD);(with_reducible rfl))|(apply WC.condD;(exact oD);all_goals (intro h;try exact xD))|refine WC.skip ?_|refine WC.ret ?_|refine WC.block ?_|refine ThenD.n ?_|refine ThenD.r ?_|refine InBlockD.r ?_));all_goals (first|((repeat clear hK);(repeat clear Kx))))
    all_goals try (exfalso;first|contradiction|omega)
    ·refine ⟨trivial,js3++[_],by rw [hhq];simp,js3,.inr ⟨dn,(L05.facL s)[i],(L05.facL s).drop (i+1),?_,by simpa using hj3⟩,rfl⟩
     rw [q3,<- List.drop_eq_getElem_cons hif,List.take_append_drop]
    ·(refine ⟨(i+1,dn++[(L05.facL s)[i]],js3),?_,by first|omega|(simp only;omega),rfl,?_⟩;rotate_left;((try dsimp only [ZQ,z0,z1]);repeat (first|exact LeF.nil|refine ZD (k:=?_)));(try dsimp only))
     exact ⟨hi,by simpa using hj3,hsn⟩
   ·have h1I:¬ (s.length:Int)>1:=by omega
    have hf0:L05.facL s=[]:=by unfold L05.facL;rw [if_neg h1]
    ((repeat' (first |  (apply I.WC.drawTail 14;kernel_rfl;kernel_rfl;simp only [List.take_succ_cons,List.take_zero,List.drop_succ_cons,List.drop_zero])|((first|apply WL.opN|apply WD.opN);exact yF;dsimp only [ZB,z0,z1])|refine WL.nil ?_|refine WD.nil ?_|refine ZA fun Kx hK=>?_|(refine hK _ _ ?_;clear hK)|refine WC.region ?_ |  (refine I.ZF (d:=dX undef) (.inr ⟨ZBK rfl rfl rfl rfl,rfl⟩) ?_;dsimp only [ZB,z0,z1]) |  (refine I.WL.op rfl (Zj (OpD.t rfl) rfl OpD.b) ?_;dsimp only [ZB,z0,z1];refine I.WL.nil ?_)|((first|apply ZF|apply WD.op);(focus (first|exact wN|(apply SYG.yes;(exact wY);((first|((first|apply SY.move|apply SY.assign|apply SY.lss|apply SY.gtr|apply SY.not) <;> (exact oD))|((first|apply SY.add) <;> first|exact oD|omega)|(apply SY.len;(exact oD);(exact nD);(exact uD))|fail);all_goals infer_instance))));dsimp only [ZB,z0,z1])|((first|refine ZM rfl rfl rfl (fun h=>?_) (fun h=>?_)|refine ZL rfl rfl rfl (fun h=>?_) (fun h=>?_)|refine ZK rfl rfl rfl (fun h=>?_) (fun h=>?_)|refine Zp rfl rfl rfl (fun h=>?_) (fun h=>?_)|refine Zo rfl rfl rfl (fun h=>?_) (fun h=>?_)|refine Zl rfl rfl rfl (fun h=>?_) (fun h=>?_)) <;> (first|(exfalso;first|omega|contradiction)|(dsimp only [z0,z1])))|(apply Za;(exact oD);(with_reducible rfl))|(apply WC.condD;(exact oD);all_goals (intro h;try exact xD))|refine WC.skip ?_|refine WC.block ?_|refine ThenD.n ?_));all_goals (first|((repeat clear hK);(repeat clear Kx))))
    all_goals try (exfalso;first|contradiction|omega)
    (refine ⟨(i+1,dn,js1),?_,by first|omega|(simp only;omega),rfl,?_⟩;rotate_left;((try dsimp only [ZQ,z0,z1]);repeat (first|exact LeF.nil|refine ZD (k:=?_)));(try dsimp only))
    exact ⟨hi,q2,by rw [q3,hf0];simp⟩
  ·have hiI:¬ (i:Int)<(s.length:Int):=by omega
   obtain rfl:i=s.length:=by omega
   have hfl:(L05.facL s).length≤s.length:=by
    unfold L05.facL
    split
    ·rw [List.length_map,List.length_range];exact Nat.le_refl _
    ·exact Nat.zero_le _
   rw [List.take_of_length_le hfl] at q3
   subst q3
   ((repeat' (first|refine WL.nil ?_|refine ZA fun Kx hK=>?_|(refine hK _ _ ?_;clear hK)|refine WC.region ?_|((first|apply ZF|apply WD.op);(focus (first|exact wN|(apply SYG.yes;(exact wY);((first|((first|apply SY.move|apply SY.assign|apply SY.lss|apply SY.gtr|apply SY.not) <;> (exact oD))|fail);all_goals infer_instance))));dsimp only [ZB,z0,z1])|(apply WC.condD;(exact oD);all_goals (intro h;try exact xD))|refine WC.exit ?_|refine ThenD.x ?_|refine InBlockD.x ?_));all_goals (first|((repeat clear hK);(repeat clear Kx))))
   all_goals try (exfalso;first|contradiction|omega)
   exact ⟨trivial,js1++[_],by rw [hhq];simp,js1,.inl q2,rfl⟩⟩
theorem ZMx (s:List Vx):CallC Tryz.prog 87 ([dS ZJ s]++([]:List Value).map dX) [] (fun d hp2=>∃ vs,d=dX (.func (.func 117) #[] [vs].toArray)/\hp2=[ZAW vs (dP 1 false (dS ZJ s))]):=by
 (refine ZAb Tryz.func87 rfl rfl (fun hp=>?_);simp only [Tryz.ntmps87,List.length_cons,List.length_nil,List.length_append,List.length_map,Nat.reduceAdd,Nat.reduceSub,List.replicate_succ,List.replicate_zero,List.cons_append,List.nil_append,List.map_cons,List.map_nil,List.append_assoc])
 ((repeat' (first |  (refine ZFS (d:=dP 1 false (dS ZJ s)) 1 rfl fun vs=>?_;dsimp only [z0,z1])|(apply WL.opN;exact yF;dsimp only [ZB,z0,z1])|refine WL.nil ?_|refine ZA fun Kx hK=>?_|(refine hK _ _ ?_;clear hK)|refine WC.region ?_|(apply WL.opN;(focus ((first|(apply ZDx;repeat (first|exact ArgsX.nil|(apply ArgsX.cons;exact OpD.t rfl)))|(apply SY.box;(exact oD);(exact hD))|fail);all_goals infer_instance));dsimp only [ZB,z0,z1])|refine WC.ret ?_));all_goals (first|((repeat clear hK);(repeat clear Kx))))
 exact ⟨trivial,_,[_],rfl,rfl,vs,rfl,rfl⟩
end
section
open Go.RowKit
section
variable {P:Program} {k t e:TypeId} {z:Value} {K V:Type} [DecidableEq K] {kv:K->Value} {ok:K->Prop} {vv:V->Value}
def entF (kv:K->Value) (vv:V->Value) (m:List (K × V × Nat)):List MapEntry:=m.map fun p=>⟨kv p.1,vv p.2.1,p.2.2⟩
structure MapOf (ok:K->Prop) (f:K->Option V) (m:List (K × V × Nat)):Prop where
 keys:∀ p∈m,ok p.1
 nodup:(m.map (·.1)).Nodup
 no:∀ x,(∀ p∈m,p.1≠x)->f x=none
 yes:∀ p∈m,f p.1=some p.2.1
def upF (f:K->Option V) (x:K) (v:Option V):K->Option V:=fun y=>if y=x then v else f y
def hG (b:Nat) (kv:K->Value) (ok:K->Prop) (vv:V->Value) (p:(K->Option V)->Prop):HObj where
 blk:=some b
 ok:=fun _ w=>∃ f m c,p f/\MapOf ok f m/\w.heap[b]?=some (.map (entF kv vv m).toArray c)
 weak:=fun h _=>h
 bound:=fun h=>h
 move:=fun ⟨f,m,c,h0,h1,h2⟩ hg _ hne=>⟨f,m,c,h0,h1,by
  have hlt:b<_:=(Array.getElem?_eq_some_iff.1 h2).1
  refine (hg.block b hlt ?_).trans h2
  rcases hne with h|h
  ·cases h
  ·exact h⟩
theorem MapOf.at {f:K->Option V} {m:List (K × V × Nat)} (h:MapOf ok f m) {i j:Nat} (hi:i<m.length) (hj:j<m.length) (e:m[i].1=m[j].1):i=j:=by
 have h3:(m.map (·.1))[i]'(by simpa using hi)=(m.map (·.1))[j]'(by simpa using hj):=by simpa using e
 exact (List.getElem_inj h.nodup).1 h3
theorem MapOf.set {f:K->Option V} {m:List (K × V × Nat)} (h:MapOf ok f m) {j:Nat} (hj:j<m.length) (v:V):MapOf ok (upF f m[j].1 (some v)) (m.set j (m[j].1,v,m[j].2.2)):=by
 have hks:(m.set j (m[j].1,v,m[j].2.2)).map (·.1)=m.map (·.1):=by
  rw [List.map_set]
  apply List.ext_getElem (by simp)
  intro i h1 h2
  rw [List.getElem_set]
  split
  ·rename_i e;subst e;simp
  ·rfl
 refine ⟨fun p hp=>?_,by rw [hks];exact h.nodup,fun x hx=>?_,fun p hp=>?_⟩
 ·rcases List.mem_or_eq_of_mem_set hp with hp|rfl
  ·exact h.keys p hp
  ·exact h.keys m[j] (List.getElem_mem hj)
 ·have hx':∀ p∈m,p.1≠x:=fun p hp e=>by
   have:p.1∈(m.set j (m[j].1,v,m[j].2.2)).map (·.1):=by rw [hks];exact List.mem_map_of_mem hp
   obtain ⟨q,hq,e'⟩:=List.mem_map.1 this
   exact hx q hq (e'.trans e)
  unfold upF
  rw [if_neg fun e=>hx' _ (List.getElem_mem hj) e.symm]
  exact h.no x hx'
 ·obtain ⟨i,hi,rfl⟩:=List.mem_iff_getElem.1 hp
  rw [List.length_set] at hi
  rw [List.getElem_set]
  unfold upF
  by_cases e:j=i
  ·rw [if_pos e];exact if_pos rfl
  ·rw [if_neg e,if_neg fun q=>e (h.at hi hj q).symm]
   exact h.yes _ (List.getElem_mem hi)
end
end
section
open Go.RowKit
def RVal:Rel Value:=fun _ _ v x=>v=x
instance:Good RVal:=⟨fun h _=>h,fun h _=>h,fun h=>h⟩
def ZDf:Rel Value:=fun _ _ v x=>v=x/\x.oneCell'=true
instance:Good ZDf:=⟨fun h _=>h,fun h _=>h,fun h=>h⟩
theorem ZOJ {a:Value}:(dS ZDf a).Shape 1 false:=fun I w v h=>ZZ (show a.oneCell'=true from (h:_/\_).2) I w v (show v=a from (h:_/\_).1)
theorem le_RX {a:Value}:(dS ZDf a).le (dX a):=fun _ _ _ h=>(h:_/\_).1
theorem ZSy {a:Value} (h:a.oneCell'=true):(dX a).le (dS ZDf a):=fun _ _ _ q=>⟨q,h⟩
section
variable {P:Program} {ops:Array Oper} {hp:List HObj} {o:Oper} {fr:List Dat} {d:Dat} {Q:ZAE} {rest:List Oper} {c:Code}
variable {dst:Option Tmp} {ty:TypeId} {ps:String} {af:Array Edge} {g:Option (Nat × Bool)} {e e' t T:TypeId} {bytes:Nat} {z:Value} {ag:Bool} {α:Type} {R:Rel α} {xs:List α} {v:Value}
theorem ZQK {I:Nat->Prop} {w:World} (h:Own 0 e R I w v xs):(v = .slice none 0 0/\xs=[])\/∃ b cap,v = .slice (some ⟨b,0,none⟩) xs.length cap/\xs.length≤cap:=by
 obtain ⟨us,h1,⟨h2,h3⟩,h4⟩:=h
 rcases h3 with ⟨hv,hz⟩|⟨g,cap,cur,hv,hB,hg,hc1,hc2,hc3,hc4⟩
 ·exact .inl ⟨hv,List.length_eq_zero_iff.1 hz⟩
 ·exact .inr ⟨g,cap,hv,hc1⟩
end
end
section
open Go.RowKit
section
variable {P:Program} {ops:Array Oper} {hp:List HObj} {fr:List Dat} {Q:ZAE} {rest:List Oper} {c:Code} {d:Dat} {α:Type} {R:Rel α} {e:TypeId}
structure CapH (hp:List HObj) (v:Value) (d:Dat):Prop where
 out:∀ {P0:Nat->Prop} {B:Nat} {w0 w:World},Hp P0 B w0 hp w->d.rd ZL0 w v
theorem CapH.map {K V:Type} {kv:K->Value} {vv:V->Value} {R:Rel V} [Good R] {M:List (K × V)} {b m:Nat} {T:TypeId} (h1:ZO b T 1 false (dX (.map (some m)))∈hp) (h2:hM m kv vv M∈hp) (hvv:∀ I w (y:V),R I w (vv y) y) :
  CapH hp (.pointer (some ⟨b,0,none⟩)) (dP 1 false (dS (ZH7 kv R) M)):=CapH.mk fun {P0 B w0 w} hh=>by
 obtain ⟨cs,u,c1,c2,c0,c3,c4,c5⟩:=hh.ok _ h1
 have hu:u = .map (some m):=c5
 have hb:w.heap[m]?=some (ZAX _):=hh.ok _ h2
 refine ⟨b,0,u,rfl,ZAF c1 c2 c0 c3 c4 trivial,m,M.map fun p=>vv p.2,hu,trivial,by simp,?_,fun k q1 q2=>?_⟩
 ·rw [hb]
  congr 2
  unfold ZAP
  rw [List.zip_map',List.map_map]
  rfl
 ·simp only [List.getElem_map]
  exact hvv _ _ _
end
end
section
open Go.RowKit
section
variable {P:Program} {ops:Array Oper} {hp:List HObj} {fr:List Dat} {dst:Option Tmp} {ty:TypeId} {ps:String} {af:Array Edge} {t e:TypeId} {z:Value} {bytes:Nat} {ag:Bool}
theorem SW.app1 {s y:Operand} (E:ElT P t e 1 z bytes ag) {α:Type} {R:Rel α} {_gR:Good R} {v:Value} {xs ys:List α} (hs:OpD fr s (dX v)) (hy:OpD fr y (dS (Arr R) ys)) (hby:0<bytes)
  (hlen:(xs.length+ys.length)*bytes≤140737488355328) :
  SW P ops (Zh v e R xs::hp) (fun v':Value=>Zh v' e R (xs++ys)::hp) (fun v'=>dX v') ⟨dst,.call { callee:=.builtin .append,args:=#[s,y],argTypes:=#[t,t] },ty,ps,af,none⟩ fr:=⟨rfl,fun {P0 B w0 w a} hh ho K Q hk=>by
 obtain ⟨ad,cap,hv,c1,c2,c3⟩:=(hy.get (by simp [Op.operands,Call.operands]) ho:Arr R _ _ _ _)
 have hm:xs.length+ys.length≤maxLen:=by
  have:(xs.length+ys.length)*1≤(xs.length+ys.length)*bytes:=Nat.mul_le_mul_left _ hby
  simp only [maxLen];omega
 have hse:a.eval s=v:=hs.get (by simp [Op.operands,Call.operands]) ho
 cases ad with
 | none =>
  have hy0:ys=[]:=by
   cases ys with
   | nil=>rfl
   | cons y ys=>obtain ⟨_,_,_,_,_,hc,_⟩:=c3 0 (by simp);cases hc
  subst hy0
  obtain ⟨us,_,hown,_⟩:=hh.ok (Zh v e R xs) (by simp)
  have hrun:(execOp a.eval ⟨dst,.call { callee:=.builtin .append,args:=#[s,y],argTypes:=#[t,t] },ty,ps,af,none⟩).run P w = .ok (.value v) w:=by
   have hr:=ZBI (P:=P) (ty:=ty) (w:=w) E hown cap
   have hv':a.eval y = .slice none 0 cap:=hv
   unfold execOp
   simp only [resolve,invoke,builtin,List.map_toArray,List.map_cons,List.map_nil,hse,hv',Sem.run_bind,Sem.run_pure,Result.andThen_ok]
   rw [hr]
   simp
  unfold Oper.wp
  rw [hrun]
  have:=hk v v w
  simp only [List.append_nil] at this
  exact this hh (fun _ _ h=>h) rfl
 | some ad =>
  have hch:∀ k:Nat,∃ u:Value,∀ h:k<ys.length,w.cell? (ad.add k)=some u/\u.oneCell'=true/\R (Imm P0 B (Zh v e R xs::hp)) w u ys[k]:=fun k=>by
   by_cases hk:k<ys.length
   ·obtain ⟨u,b,off,r1,r2,r3,r4,r5⟩:=c3 k hk
    cases r3
    exact ⟨u,fun _=>⟨by rw [Addr.add_lit];exact r5,r2,r1⟩⟩
   ·exact ⟨undef,fun h=>absurd h hk⟩
  obtain ⟨f,hfch⟩:=Classical.axiomOfChoice hch
  obtain ⟨v',w',hr,r1,r2,r3⟩:=ZD0 (ty:=ty) E hh (ad:=ad) (c:=cap) (ys:=ys) (news:=(List.range ys.length).map f) (by simp) (fun j u hu=>by
    obtain ⟨hjl,hju⟩:=List.getElem?_eq_some_iff.1 hu
    simp at hjl hju
    subst hju
    exact (hfch j hjl).1) (fun u hu=>by
    simp only [List.mem_map,List.mem_range] at hu
    obtain ⟨j,hj,rfl⟩:=hu
    exact (hfch j hj).2.1) (fun k h1 h2=>by
    simp only [List.getElem_map,List.getElem_range]
    exact (hfch k h2).2.2) hlen hm
  have hrun:(execOp a.eval ⟨dst,.call { callee:=.builtin .append,args:=#[s,y],argTypes:=#[t,t] },ty,ps,af,none⟩).run P w = .ok (.value v') w':=by
   unfold execOp
   simp only [resolve,invoke,builtin,List.map_toArray,List.map_cons,List.map_nil,hse,hv,Sem.run_bind,Sem.run_pure,Result.andThen_ok,hr]
  unfold Oper.wp
  rw [hrun]
  exact hk v' v' w' r1 (fun d u hd=>ZN (o:=Zh v e R xs) (o':=Zh v' e R (xs++ys)) r2 r3 hd) rfl⟩
end
end
section
open Go.RowKit
section
variable {P:Program} {ops:Array Oper} {md:Region.Mode} {fr fr':List Dat} {hp:List HObj} {C:List HObj->Prop}
inductive WRd (P:Program) (ops:Array Oper) (C:List HObj->Prop) (Q:List Dat->Prop):List Nat->List Dat->Prop
 | nil {fr:List Dat}:Q fr->WRd P ops C Q [] fr
 | read {i:Nat} {o:Oper} {r:List Nat} {fr:List Dat} {d:Dat}:ops[i]?=some o->(∀ hp',C hp'->SYG P ops hp' o fr d)->WRd P ops C Q r (ZB fr o.dst d)->WRd P ops C Q (i::r) fr
structure W2 (P:Program) (ops:Array Oper) (C:List HObj->Prop) (R:List Dat->List HObj->Prop) (i j:Nat) (fr:List Dat) (hp:List HObj):Prop where
 out:∃ oi oj,ops[i]?=some oi/\ops[j]?=some oj/\∃ (β:Type) (H:β->List HObj) (D:β->Dat),SW P ops hp H D oi fr/\(∀ x,C (H x))/\∀ x,∃ (γ:Type) (H2:γ->List HObj) (D2:γ->Dat),SW P ops (H x) H2 D2 oj (ZB fr oi.dst (D x))/\(∀ y,C (H2 y))/\∀ y,R (ZB (ZB fr oi.dst (D x)) oj.dst (D2 y)) (H2 y)
theorem W2.id {R:List Dat->List HObj->Prop} {i j:Nat} (h:W2 P ops C R i j fr hp):W2 P ops C R i j fr hp:=h
theorem WRd.id {Q:List Dat->Prop} {r:List Nat} (h:WRd P ops C Q r fr):WRd P ops C Q r fr:=h
theorem SW.alloc {dst:Option Tmp} {ty:TypeId} {ps:String} {af:Array Edge} {T:TypeId} {n:Nat} {agg:Bool} {z:Value} (hz:TyZ P T z) (hs:(dX z).Shape n agg) :
  SW P ops hp (fun b:Nat=>ZO b T n agg (dX z)::hp) (fun b=>dX (.pointer (some ⟨b,0,none⟩))) ⟨dst,.alloc T,ty,ps,af,none⟩ fr:=⟨rfl,fun {P0 B w0 w a} hh ho K Q hk=>by
 obtain ⟨cs,k1,k0,k2,k3,k4⟩:=hs (fun _=>True) w z rfl
 have hrun:(execOp a.eval ⟨dst,.alloc T,ty,ps,af,none⟩).run P w = .ok (.value (.pointer (some ⟨w.heap.size,0,none⟩))) (w.alloc (.cells cs.toArray T)):=by
  cases hq:P.info? T with
  | none=>have:=hz.out;simp [hq] at this
  | some i =>
   have hz':i.zero=some z:=by have:=hz.out;simpa [hq] using this
   unfold execOp
   simp [Instr.alloc,zeroValue,typeInfo,hq,hz',newVar,newRow,k3]
 unfold Oper.wp
 rw [hrun]
 have hx:=Ext.of_alloc w (.cells cs.toArray T)
 have hb:∀ k,(ZO w.heap.size T n agg (dX z)).blk=some k->w.heap.size≤k/\k<(w.alloc (.cells cs.toArray T)).heap.size:=fun k hk=>by
  cases hk
  exact ⟨Nat.le_refl _,by simp⟩
 exact hk w.heap.size _ _ (hh.push hx hb ⟨cs,z,Zx w _,k1,k0,k2,k4,rfl⟩) (fun d u hd=>Z8 hx (fun k hk=>(hb k hk).1) hd) rfl⟩
end
end
end Go.Proofs.YtokmalofdapffaaGreat
