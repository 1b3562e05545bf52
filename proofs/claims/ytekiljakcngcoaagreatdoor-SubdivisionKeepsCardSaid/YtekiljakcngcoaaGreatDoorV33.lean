/- Part 33: walks by contracts, and plain laws. -/
import Derived.Test.YtekiljakcngcoaaGreatDoorV32
set_option linter.unusedVariables false
set_option linter.unusedSimpArgs false
set_option linter.unusedSectionVars false
set_option maxRecDepth 100000
set_option maxHeartbeats 4000000
namespace Go.Proofs.YtekiljakcngcoaaGreatDoor
section
open Go.RowKit

def ZDC (s:List Vx):Int:=if Z3 s≠0 then Z3 s else if ZAi s then 0 else 3
theorem ZGG (s:List Vx):Fn Tryz.prog 47 [dS ZI s] (dI (ZDC s)):=by
 by_cases h0:Z3 s=0
 ·have hc:=ZOH s
  have e:ZEU s=(ZAi s,0):=by unfold ZEU;rw [if_neg (by simp [h0])]
  rw [e] at hc
  have hk:=ZJJ s
  rw [h0] at hk
  have e2:ZDC s=if ZAi s then 0 else 3:=by unfold ZDC;rw [if_neg (by simp [h0])]
  rw [e2]
  cases hd:ZAi s <;> rw [hd] at hc
  ·(refine ZH Tryz.func47 rfl rfl ?_;simp only [Tryz.ntmps47,List.length_cons,List.length_nil,Nat.reduceAdd,Nat.reduceSub,List.replicate_succ,List.replicate_zero,List.cons_append,List.nil_append])
   ((repeat' (first|(apply WL.opN;exact yF;dsimp only [ZA,z0,z1])|refine WL.nil ?_|refine ZC fun Kx hK=>?_|(refine hK _ _ ?_;clear hK)|refine WC.region ?_|(apply WL.opN;(focus ((first|(apply SY.call (hk) Tryz.call63;(exact aD))|(apply SY.call (hc) Tryz.call51;(exact aD))|((first|apply SY.move|apply SY.assign|apply SY.neq|apply SY.not) <;> (exact oD))|(apply SY.extract;(exact oD);rfl)|fail);all_goals infer_instance));dsimp only [ZA,z0,z1])|(apply WC.condN;(exact oD);all_goals (intro h;try exact xD))|(apply WC.condNB;(exact oD);all_goals (intro h;try exact xD))|refine WC.skip ?_|refine WC.ret ?_|refine ThenD.r ?_));all_goals (first|((repeat clear hK);(repeat clear Kx))))
   (refine ⟨trivial,_,rfl,?_⟩;exact fD)
  ·(refine ZH Tryz.func47 rfl rfl ?_;simp only [Tryz.ntmps47,List.length_cons,List.length_nil,Nat.reduceAdd,Nat.reduceSub,List.replicate_succ,List.replicate_zero,List.cons_append,List.nil_append])
   ((repeat' (first|(apply WL.opN;exact yF;dsimp only [ZA,z0,z1])|refine WL.nil ?_|refine ZC fun Kx hK=>?_|(refine hK _ _ ?_;clear hK)|refine WC.region ?_|(apply WL.opN;(focus ((first|(apply SY.call (hk) Tryz.call63;(exact aD))|(apply SY.call (hc) Tryz.call51;(exact aD))|((first|apply SY.move|apply SY.assign|apply SY.neq|apply SY.not) <;> (exact oD))|(apply SY.extract;(exact oD);rfl)|fail);all_goals infer_instance));dsimp only [ZA,z0,z1])|(apply WC.condN;(exact oD);all_goals (intro h;try exact xD))|(apply WC.condNB;(exact oD);all_goals (intro h;try exact xD))|refine WC.skip ?_|refine WC.ret ?_));all_goals (first|((repeat clear hK);(repeat clear Kx))))
   (refine ⟨trivial,_,rfl,?_⟩;exact fD)
 ·have hk:=ZJJ s
  have e2:ZDC s=Z3 s:=by unfold ZDC;rw [if_pos h0]
  rw [e2]
  (refine ZH Tryz.func47 rfl rfl ?_;simp only [Tryz.ntmps47,List.length_cons,List.length_nil,Nat.reduceAdd,Nat.reduceSub,List.replicate_succ,List.replicate_zero,List.cons_append,List.nil_append])
  ((repeat' (first|(apply WL.opN;exact yF;dsimp only [ZA,z0,z1])|refine WL.nil ?_|refine ZC fun Kx hK=>?_|(refine hK _ _ ?_;clear hK)|refine WC.region ?_|(apply WL.opN;(focus ((first|(apply SY.call (hk) Tryz.call63;(exact aD))|((first|apply SY.move|apply SY.assign|apply SY.neq|apply SY.not) <;> (exact oD))|fail);all_goals infer_instance));dsimp only [ZA,z0,z1])|(apply WC.condN;(exact oD);all_goals (intro h;try exact xD))|refine WC.ret ?_|refine ThenD.r ?_));all_goals (first|((repeat clear hK);(repeat clear Kx))))
  all_goals first|(refine ⟨trivial,_,rfl,?_⟩;exact fD)|(exfalso;omega)
theorem ZL0 (m:Int):Fn Tryz.prog 49 [dI m] (dI m):=by
 (refine ZH Tryz.func49 rfl rfl ?_;simp only [Tryz.ntmps49,List.length_cons,List.length_nil,Nat.reduceAdd,Nat.reduceSub,List.replicate_succ,List.replicate_zero,List.cons_append,List.nil_append])
 ((repeat' (first|(apply WL.opN;exact yF;dsimp only [ZA,z0,z1])|refine WL.nil ?_|refine ZC fun Kx hK=>?_|(refine hK _ _ ?_;clear hK)|refine WC.region ?_|refine WC.ret ?_));all_goals (first|((repeat clear hK);(repeat clear Kx))))
 (refine ⟨trivial,_,rfl,?_⟩;exact fD)
def ZFd (b m i:Nat) (o:Nat->Nat) (k:Nat):Nat:=if k<i/\ZJE b k=true then m ||| b else o k
theorem ZOj (b m:Nat) (o:Nat->Nat):ZFd b m 0 o=o:=funext fun k=>by unfold ZFd;rw [if_neg (by omega)]
theorem ZRE {n b m i:Nat} {o:Nat->Nat} (hb:ZJE b i=true):(ZGi n (ZFd b m i o)).set i ((m ||| b:Nat):Int)=ZGi n (ZFd b m (i+1) o):=by
 rw [ZRq]
 refine ZFK fun k _=>?_
 unfold ZFd
 by_cases hk:k=i
 ·subst hk
  rw [if_pos rfl,if_pos ⟨by omega,hb⟩]
 ·rw [if_neg hk]
  by_cases hlt:k<i/\ZJE b k=true
  ·rw [if_pos hlt,if_pos ⟨by omega,hlt.2⟩]
  ·rw [if_neg hlt,if_neg fun q=>hlt ⟨by omega,q.2⟩]
theorem ZOi {n b m i:Nat} {o:Nat->Nat} (hb:ZJE b i=false):ZGi n (ZFd b m i o)=ZGi n (ZFd b m (i+1) o):=by
 refine ZFK fun k _=>?_
 unfold ZFd
 by_cases hlt:k<i/\ZJE b k=true
 ·rw [if_pos hlt,if_pos ⟨by omega,hlt.2⟩]
 ·rw [if_neg hlt,if_neg fun q=>hlt ⟨by
   have:k≠i:=fun e=>by rw [e,hb] at q;cases q.2
   omega,q.2⟩]
theorem ZRD {n b m:Nat} {o:Nat->Nat}:ZGi n (ZFd b m n o)=ZGi n fun i=>if ZJE b i=true then m ||| b else o i:=by
 refine ZFK fun k hk=>?_
 unfold ZFd
 by_cases hb:ZJE b k=true
 ·rw [if_pos ⟨hk,hb⟩,if_pos hb]
 ·rw [if_neg fun q=>hb q.2,if_neg hb]
theorem ZDY {b i:Nat}:((((b >>> i) &&& 1:Nat):Int)=1)↔ZJE b i=true:=by
 unfold ZJE
 rw [decide_eq_true_eq]
 omega
set_option maxHeartbeats 4000000 in
theorem ZGl (n:Nat) (bl:List Nat) (hn:n≤60) (hb:∀ b∈bl,b<1048576):Fn Tryz.prog 54 [dI (n:Int),dS ZCC (ZAa bl)] (dS ZCC (ZGi n (ZBE bl 0 fun _=>0))):=by
 (refine ZH Tryz.func54 rfl rfl ?_;simp only [Tryz.ntmps54,List.length_cons,List.length_nil,Nat.reduceAdd,Nat.reduceSub,List.replicate_succ,List.replicate_zero,List.cons_append,List.nil_append])
 (first|refine Ze (t:=1) rfl ZFf fun hl1=>?_|refine Ze (t:=1) rfl ZFe fun hl1=>?_|refine Ze (t:=1) rfl ZQC fun hl1=>?_);simp only [maxLen] at hl1
 rw [ZB8] at hl1
 (repeat' (first|(apply WL.opN;exact yF;dsimp only [ZA,z0,z1])|refine WL.nil ?_|refine ZC fun Kx hK=>?_|(refine hK _ _ ?_;clear hK)|refine WC.region ?_ |  (refine ZQX elI (OpD.t rfl) (OpD.t rfl) rfl (by omega) (by omega) fun v=>?_;dsimp only [ZA,z0,z1])|(apply WL.opN;(focus ((first|(apply SY.len;(exact oD);(exact nD);(exact uD))|fail);all_goals infer_instance));dsimp only [ZA,z0,z1])|refine WC.block ?_))
 rw [ZB8,<- ZPY]
 (refine WC.loopU (X:=Nat × Nat × (Nat->Nat)) (fun x=>[(14,dI (x.1:Int)),(6,dI (x.2.1:Int)),(8,dA),(9,dA),(15,dA),(16,dA),(17,dA),(18,dA),(19,dA),(20,dA),(21,dA),(22,dA),(23,dA),(24,dA),(25,dA),(26,dA),(27,dA),(28,dA),(29,dA),(30,dA),(31,dA),(32,dA),(33,dA),(34,dA),(35,dA)]) (fun x=>[Zr v 3 RI (ZGi n x.2.2)]) (fun x=>bl.length-x.1) (fun x=>x.1≤bl.length/\x.2.1<1048576/\ZBE (bl.drop x.1) x.2.1 x.2.2=ZBE bl 0 (fun _=>0)) (0,0,fun _=>0) ?start ?frame0 ?objs0 ?round)
 case start=>exact ⟨Nat.zero_le _,by decide,rfl⟩
 case frame0=>((try dsimp only [Za,z0,z1]);repeat (first|exact LeF.nil|refine ZF (k:=?_)))
 case objs0=>rfl
 case round =>
  rintro ⟨j,m,o⟩ ⟨h1,h2,h3⟩
  simp only at h1 h2 h3
  dsimp only [Za,z0,z1]
  by_cases hj:j<bl.length
  ·have hbj:bl[j]<1048576:=hb _ (List.getElem_mem hj)
   have hor:m ||| bl[j]<1048576:=Nat.or_lt_two_pow (n:=20) h2 hbj
   have hdr:bl.drop j=bl[j]::bl.drop (j+1):=List.drop_eq_getElem_cons hj
   rw [hdr] at h3
   (repeat' (first|(apply WL.opN;exact yF;dsimp only [ZA,z0,z1])|refine WL.nil ?_|refine ZC fun Kx hK=>?_|(refine hK _ _ ?_;clear hK)|refine WC.region ?_|(apply WL.opN;(focus ((first|(refine ZSD (a:=m) (b:=bl[j]) (by omega) (by omega) (OpD.t rfl) (OpD.t rfl))|(refine ZSB elI (OpD.t rfl) (OpD.t rfl) hj)|((first|apply SY.move|apply SY.assign|apply SY.lss|apply SY.eql|apply SY.and|apply SY.or) <;> (exact oD))|fail);all_goals infer_instance));dsimp only [ZA,z0,z1])|(apply ZE;(exact oD);all_goals (intro h;try exact xD))|refine WC.skip ?_|refine WC.block ?_))
   all_goals try (exfalso;first|contradiction|omega)
   have hz:o=ZFd bl[j] m 0 o:=(ZOj bl[j] m o).symm
   rw [hz]
   (refine WC.loopU (X:=Nat) (fun i=>[(22,dI (i:Int)),(9,dA),(23,dA),(24,dA),(25,dA),(26,dA),(27,dA),(28,dA),(29,dA),(30,dA),(31,dA),(32,dA),(33,dA),(34,dA)]) (fun i=>[Zr v 3 RI (ZGi n (ZFd bl[j] m i o))]) (fun i=>n-i) (fun i=>i≤n) 0 ?start ?frame0 ?objs0 ?round)
   case start=>exact Nat.zero_le _
   case frame0=>((try dsimp only [Za,z0,z1]);repeat (first|exact LeF.nil|refine ZF (k:=?_)))
   case objs0=>rfl
   case round =>
    rintro i q1
    dsimp only [Za,z0,z1]
    by_cases hi:i<n
    ·cases hbit:ZJE bl[j] i with
     | true =>
      have hcond:=ZDY.2 hbit
      ((repeat' (first|(apply WL.opN;exact yF;dsimp only [ZA,z0,z1])|refine WL.nil ?_|refine ZC fun Kx hK=>?_|(refine hK _ _ ?_;clear hK)|refine WC.region ?_ |  (apply ZI4;exact tyI;exact OpD.t rfl;exact OpD.t rfl;exact Zv;(rw [ZEr];exact hi);dsimp only [ZA,z0,z1])|(apply WL.opN;(focus ((first|(refine ZE1 (a:=bl[j]) (b:=i) (by omega) (OpD.t rfl) (OpD.t rfl))|(refine ZEz (m:=bl[j]) (i:=i) (by omega) (OpD.t rfl))|(apply ZUU;exact elI;exact OpD.t rfl;exact .head _;exact OpD.t rfl;rfl;(rw [ZEr];exact hi))|((first|apply SY.move|apply SY.assign|apply SY.lss|apply SY.eql|apply SY.and|apply SY.or) <;> (exact oD))|((first|apply SY.add) <;> first|exact oD|omega)|fail);all_goals infer_instance));dsimp only [ZA,z0,z1])|(apply ZE;(exact oD);all_goals (intro h;try exact xD))|refine WC.skip ?_|refine WC.block ?_|refine ThenD.n ?_));all_goals (first|((repeat clear hK);(repeat clear Kx))))
      all_goals try (exfalso;first|contradiction|omega)
      rw [ZRE hbit]
      (refine ⟨i+1,?_,by first|omega|(simp only;omega),rfl,?_⟩;rotate_left;((try dsimp only [Za,z0,z1]);repeat (first|exact LeF.nil|refine ZF (k:=?_)));(try dsimp only))
      omega
     | false =>
      have hcond:¬ ((((bl[j] >>> i) &&& 1:Nat):Int)=1):=fun q=>by rw [ZDY.1 q] at hbit;cases hbit
      ((repeat' (first|(apply WL.opN;exact yF;dsimp only [ZA,z0,z1])|refine WL.nil ?_|refine ZC fun Kx hK=>?_|(refine hK _ _ ?_;clear hK)|refine WC.region ?_|(apply WL.opN;(focus ((first|(refine ZE1 (a:=bl[j]) (b:=i) (by omega) (OpD.t rfl) (OpD.t rfl))|(refine ZEz (m:=bl[j]) (i:=i) (by omega) (OpD.t rfl))|((first|apply SY.move|apply SY.assign|apply SY.lss|apply SY.eql|apply SY.and|apply SY.or) <;> (exact oD))|((first|apply SY.add) <;> first|exact oD|omega)|fail);all_goals infer_instance));dsimp only [ZA,z0,z1])|(apply ZE;(exact oD);all_goals (intro h;try exact xD))|refine WC.skip ?_|refine WC.block ?_|refine ThenD.n ?_));all_goals (first|((repeat clear hK);(repeat clear Kx))))
      all_goals try (exfalso;first|contradiction|omega)
      rw [ZOi hbit]
      (refine ⟨i+1,?_,by first|omega|(simp only;omega),rfl,?_⟩;rotate_left;((try dsimp only [Za,z0,z1]);repeat (first|exact LeF.nil|refine ZF (k:=?_)));(try dsimp only))
      omega
    ·have hin:i=n:=by omega
     subst hin
     ((repeat' (first|(apply WL.opN;exact yF;dsimp only [ZA,z0,z1])|refine WL.nil ?_|refine ZC fun Kx hK=>?_|(refine hK _ _ ?_;clear hK)|(refine Kont.skip ?_;clear hK)|refine WC.region ?_|(apply WL.opN;(focus ((first|((first|apply SY.move|apply SY.assign|apply SY.lss|apply SY.eql|apply SY.and|apply SY.or) <;> (exact oD))|((first|apply SY.add) <;> first|exact oD|omega)|fail);all_goals infer_instance));dsimp only [ZA,z0,z1])|(apply ZE;(exact oD);all_goals (intro h;try exact xD))|refine WC.exit ?_|refine ThenD.n ?_));all_goals (first|((repeat clear hK);(repeat clear Kx))))
     all_goals try (exfalso;first|contradiction|omega)
     rw [ZRD]
     (refine ⟨(j+1,m ||| bl[j],fun i=>if ZJE bl[j] i=true then m ||| bl[j] else o i),?_,by first|omega|(simp only;omega),rfl,?_⟩;rotate_left;((try dsimp only [Za,z0,z1]);repeat (first|exact LeF.nil|refine ZF (k:=?_)));(try dsimp only))
     exact ⟨by omega,hor,h3⟩
  ·have hjl:j=bl.length:=by omega
   have ho:o=ZBE bl 0 fun _=>0:=by rw [<- h3,hjl,List.drop_length];rfl
   rw [ho]
   ((repeat' (first|(apply WL.opN;exact yF;dsimp only [ZA,z0,z1])|refine WL.nil ?_|refine ZC fun Kx hK=>?_|(refine hK _ _ ?_;clear hK)|(refine Kont.skip ?_;clear hK)|refine WC.region ?_|(apply WL.opN;(focus ((first|((first|apply SY.move|apply SY.assign|apply SY.lss|apply SY.eql|apply SY.and|apply SY.or) <;> (exact oD))|fail);all_goals infer_instance));dsimp only [ZA,z0,z1])|(apply ZE;(exact oD);all_goals (intro h;try exact xD))|refine WC.ret ?_|refine WC.exit ?_));all_goals (first|((repeat clear hK);(repeat clear Kx))))
   all_goals try (exfalso;first|contradiction|omega)
   (refine ⟨trivial,_,rfl,?_⟩;exact fD)
theorem ZSA {s:List Vx} {k:Nat} (h:k<s.length):(s.take (k+1)).zipIdx=(s.take k).zipIdx++[(s[k],k)]:=by
 rw [List.take_succ_eq_append_getElem h,List.zipIdx_append]
 simp [Nat.min_eq_left (Nat.le_of_lt h)]
theorem ZFn {s:List Vx} {m k:Nat} (h:k<s.length):atB (s.take (k+1)) m=atB (s.take k) m++if ZJE m k=true then [s[k]] else []:=by
 unfold atB
 rw [ZSA h,List.filter_append,List.map_append]
 congr 1
 show List.map (·.1) (List.filter (fun p:Vx × Nat=>ZJE m p.2) [(s[k],k)])=_
 cases hb:ZJE m k with
 | true=>rw [List.filter_cons_of_pos (by simpa using hb)];rfl
 | false=>rw [List.filter_cons_of_neg (by simp [hb])];rfl
theorem ZGB (s:List Vx) (m:Nat):(atB s m).length≤s.length:=by
 unfold atB
 rw [List.length_map]
 exact Nat.le_trans (List.length_filter_le _ _) (by simp)
set_option maxHeartbeats 4000000 in
theorem ZKk (s:List Vx) (m:Nat) (hs:s.length≤60) (hm:m<1048576):Fn Tryz.prog 30 [dS ZI s,dI (m:Int)] (dS ZI (atB s m)):=by
 (refine ZH Tryz.func30 rfl rfl ?_;simp only [Tryz.ntmps30,List.length_cons,List.length_nil,Nat.reduceAdd,Nat.reduceSub,List.replicate_succ,List.replicate_zero,List.cons_append,List.nil_append])
 (repeat' (first|(apply WL.opN;exact yF;dsimp only [ZA,z0,z1])|refine WL.nil ?_|refine ZC fun Kx hK=>?_|(refine hK _ _ ?_;clear hK)|refine WC.region ?_|(apply WL.opN;(focus ((first|(apply SY.len;(exact oD);(exact nD);(exact uD))|fail);all_goals infer_instance));dsimp only [ZA,z0,z1])|refine WC.block ?_))
 refine ZBz 50 2 (by decide) RV ?_
 (refine WC.loopU (X:=Nat × Value) (fun x=>[(5,dX x.2),(10,dI (x.1:Int)),(6,dA),(7,dA),(11,dA),(12,dA),(13,dA),(14,dA),(15,dA),(16,dA),(17,dA),(18,dA),(19,dA),(20,dA),(21,dA),(22,dA),(23,dA),(24,dA)]) (fun x=>[Zp x.2 50 2 RV (atB (s.take x.1) m)]) (fun x=>s.length-x.1) (fun x=>x.1≤s.length) (0,.slice none 0 0) ?start ?frame0 ?objs0 ?round)
 case start=>simp
 case frame0=>((try dsimp only [Za,z0,z1]);repeat (first|exact LeF.nil|refine ZF (k:=?_)))
 case objs0=>rfl
 case round =>
  rintro ⟨k,u⟩ h1
  dsimp only [Za,z0,z1]
  simp only at h1
  have h2:(atB (s.take k) m).length≤1000:=by
   have:=ZGB (s.take k) m
   rw [List.length_take] at this
   omega
  by_cases hk:k<s.length
  ·cases hb:ZJE m k with
   | true =>
    have hcond:=ZDY.2 hb
    ((repeat' (first|(apply WL.opN;exact yF;dsimp only [ZA,z0,z1])|refine WL.nil ?_|refine ZC fun Kx hK=>?_|(refine hK _ _ ?_;clear hK)|refine WC.region ?_|((first|apply ZO|apply ZM);(exact eD);exact OpD.t rfl;(exact oD);(intro _;exact hD);(exact (by simp));(exact (by simp));(first|exact ⟨by decide,by decide⟩|skip);decide;(exact lD);(intro _;dsimp only [ZA,z0,z1]);all_goals (try infer_instance))|(apply WL.alloc;(first|exact tzV|exact tzC);(first|exact ZN rfl|exact ZW|exact ZX rfl);(intro _;dsimp only [ZA,z0,z1]))|(apply ZG;(exact tD);rfl;(exact oD);(exact hD);dsimp only [ZA,z0,z1])|(apply WL.opN;(focus ((first|(refine ZE1 (a:=m) (b:=k) (by omega) (OpD.t rfl) (OpD.t rfl))|(refine ZEz (m:=m) (i:=k) (by omega) (OpD.t rfl))|((first|apply SY.move|apply SY.assign|apply SY.lss|apply SY.eql|apply SY.and) <;> (exact oD))|((first|apply SY.add) <;> first|exact oD|omega)|(apply Zi;(exact eD);(exact oD);(exact oD);exact kD)|fail);all_goals infer_instance));dsimp only [ZA,z0,z1])|(apply ZE;(exact oD);all_goals (intro h;try exact xD))|refine WC.skip ?_|refine WC.block ?_|refine ThenD.n ?_));all_goals (first|((repeat clear hK);(repeat clear Kx))))
    all_goals try (exfalso;first|contradiction|omega)
    (refine ⟨(k+1,_) , ?_,by first|omega|(simp only;omega),by ((try simp only);  (rw [ZFn hk,if_pos hb])),?_⟩;rotate_left;((try dsimp only [Za,z0,z1]);repeat (first|exact LeF.nil|refine ZF (k:=?_)));(try dsimp only))
    omega
   | false =>
    have hcond:¬ ((((m >>> k) &&& 1:Nat):Int)=1):=fun q=>by rw [ZDY.1 q] at hb;cases hb
    ((repeat' (first|(apply WL.opN;exact yF;dsimp only [ZA,z0,z1])|refine WL.nil ?_|refine ZC fun Kx hK=>?_|(refine hK _ _ ?_;clear hK)|refine WC.region ?_|(apply WL.alloc;(first|exact tzV|exact tzC);(first|exact ZN rfl|exact ZW|exact ZX rfl);(intro _;dsimp only [ZA,z0,z1]))|(apply ZG;(exact tD);rfl;(exact oD);(exact hD);dsimp only [ZA,z0,z1])|(apply WL.opN;(focus ((first|(refine ZE1 (a:=m) (b:=k) (by omega) (OpD.t rfl) (OpD.t rfl))|(refine ZEz (m:=m) (i:=k) (by omega) (OpD.t rfl))|((first|apply SY.move|apply SY.assign|apply SY.lss|apply SY.eql|apply SY.and) <;> (exact oD))|((first|apply SY.add) <;> first|exact oD|omega)|(apply Zi;(exact eD);(exact oD);(exact oD);exact kD)|fail);all_goals infer_instance));dsimp only [ZA,z0,z1])|(apply ZE;(exact oD);all_goals (intro h;try exact xD))|refine WC.skip ?_|refine WC.block ?_|refine ThenD.n ?_));all_goals (first|((repeat clear hK);(repeat clear Kx))))
    all_goals try (exfalso;first|contradiction|omega)
    (refine ⟨(k+1,_) , ?_,by first|omega|(simp only;omega),by ((try simp only);  (rw [ZFn hk,if_neg (by simp [hb]),List.append_nil])),?_⟩;rotate_left;((try dsimp only [Za,z0,z1]);repeat (first|exact LeF.nil|refine ZF (k:=?_)));(try dsimp only))
    omega
  ·((repeat' (first|(apply WL.opN;exact yF;dsimp only [ZA,z0,z1])|refine WL.nil ?_|refine ZC fun Kx hK=>?_|(refine hK _ _ ?_;clear hK)|(refine Kont.skip ?_;clear hK)|refine WC.region ?_|(apply WL.opN;(focus ((first|((first|apply SY.move|apply SY.assign|apply SY.lss|apply SY.eql|apply SY.and) <;> (exact oD))|fail);all_goals infer_instance));dsimp only [ZA,z0,z1])|(apply ZE;(exact oD);all_goals (intro h;try exact xD))|refine WC.ret ?_|refine WC.exit ?_));all_goals (first|((repeat clear hK);(repeat clear Kx))))
   all_goals try (exfalso;first|contradiction|omega)
   (refine ⟨trivial,_,rfl,?_⟩;refine ZAQ (.head _) ?_)
   rw [List.take_of_length_le (by omega)]
abbrev ZQz (p:Nat->Prop) (L:Nat->Int):Dat:=ZMm Tryz.prog (fun m:{m:Nat // p m}=>[dI ((m.1:Nat):Int)]) (fun m=>dI (L m.1))
def Z5 (L:Nat->Int) (s:List Vx) (bl:List Nat):List Vx:=s.zipIdx.map fun q=>(q.1.1,L (ZBE bl 0 (fun _=>0) q.2))
theorem ZBO (L:Nat->Int) (s:List Vx) (bl:List Nat):(Z5 L s bl).length=s.length:=by simp [Z5]
theorem ZDh {L:Nat->Int} {s:List Vx} {bl:List Nat} {k:Nat} (h:k<(Z5 L s bl).length) (h':k<s.length):(Z5 L s bl)[k]=(s[k].1,L (ZBE bl 0 (fun _=>0) k)):=by simp [Z5]
theorem ZLB {P:Program} {ops:Array Oper} {hp:List HObj} {fr:List Dat} {dst:Option Tmp} {ty:TypeId} {ps:String} {af:Array Edge} {g:Option (Nat × Bool)} {x i:Operand} {t e:TypeId} {z:Value} {bytes:Nat} (E:ElT P t e 1 z bytes false) {n k:Nat} {f:Nat->Nat} (hx:OpD fr x (dS ZCC (ZGi n f))) (hi:OpD fr i (dI (k:Int))) (hk:k<n):SY P ops hp ⟨dst,.indexAddr t x i,ty,ps,af,g⟩ fr (dP 1 false (dI ((f k:Nat):Int))):=by
 have h:=SY.ix (R:=RI) (_gR:=inferInstance) (P:=P) (ops:=ops) (hp:=hp) (dst:=dst) (ty:=ty) (ps:=ps) (af:=af) (g:=g) E hx hi (by rw [ZEr];exact hk)
 rwa [ZIY] at h
set_option maxHeartbeats 4000000 in
theorem ZOg (p:Nat->Prop) (L:Nat->Int) (s:List Vx) (bl:List Nat) (hs:s.length≤60) (hb:∀ b∈bl,b<1048576) (hp:∀ i,i<s.length->p (ZBE bl 0 (fun _=>0) i)):Fn Tryz.prog 48 [dS ZI s,dS ZCC (ZAa bl),ZQz p L] (dS ZI (Z5 L s bl)):=by
 (refine ZH Tryz.func48 rfl rfl ?_;simp only [Tryz.ntmps48,List.length_cons,List.length_nil,Nat.reduceAdd,Nat.reduceSub,List.replicate_succ,List.replicate_zero,List.cons_append,List.nil_append])
 (repeat' (first|((first|apply WL.opN|apply WD.opN);exact yF;dsimp only [ZA,z0,z1])|refine WL.nil ?_|refine ZC fun Kx hK=>?_|(refine hK _ _ ?_;clear hK)|refine WC.region ?_|((first|apply WL.opN|apply WD.opN);(focus ((first|(apply SY.call (ZGl s.length bl hs hb) Tryz.call54;(exact aD))|(apply SY.len;(exact oD);(exact nD);(exact uD))|fail);all_goals infer_instance));dsimp only [ZA,z0,z1])|refine WC.block ?_))
 refine ZBz 50 2 (by decide) RV ?_
 rw [ZEr]
 (refine WC.loopU (X:=Nat × Value) (fun x=>[(7,dX x.2),(15,dI (x.1:Int)),(8,dA),(9,dA),(16,dA),(17,dA),(18,dA),(19,dA),(20,dA),(21,dA),(22,dA),(23,dA),(24,dA),(25,dA),(26,dA),(27,dA),(28,dA),(29,dA),(30,dA),(31,dA),(32,dA)]) (fun x=>[Zp x.2 50 2 RV ((Z5 L s bl).take x.1)]) (fun x=>s.length-x.1) (fun x=>x.1≤s.length) (0,.slice none 0 0) ?start ?frame0 ?objs0 ?round)
 case start=>simp
 case frame0=>((try dsimp only [Za,z0,z1]);repeat (first|exact LeF.nil|refine ZF (k:=?_)))
 case objs0=>rfl
 case round =>
  rintro ⟨k,u⟩ h1
  dsimp only [Za,z0,z1]
  simp only at h1
  have h2:((Z5 L s bl).take k).length≤1000:=by rw [List.length_take];omega
  by_cases hk:k<s.length
  ·have hkl:k<(Z5 L s bl).length:=by rw [ZBO];exact hk
   ((repeat' (first |  (apply WC.drawTail 11;kernel_rfl;kernel_rfl;simp only [List.take_succ_cons,List.take_zero,List.drop_succ_cons,List.drop_zero])|(refine WRd.nil ?_)|(apply ZBn rfl;(focus (intro c hcc;apply SYG.yes;(exact Zc rfl);((first|(refine ZLB elI (OpD.t rfl) (OpD.t rfl) hk)|(apply ZBd (x:=(⟨ZBE bl 0 (fun _=>0) k,hp k hk⟩:{m:Nat // p m}));(exact OpD.t rfl);(exact aD))|((first|apply SY.move|apply SY.assign|apply SY.lss) <;> (exact oD))|((first|apply SY.add) <;> first|exact oD|omega)|(apply SY.load;(exact tD);(exact oD))|(apply SY.len;(exact oD);(exact nD);(exact uD))|(apply ZV;exact OpD.t rfl;(first|exact .head _|exact .tail _ (.head _));(exact uD))|(apply Zf;exact OpD.t rfl;(first|exact .head _|exact .tail _ (.head _));(exact uD))|(apply Zi;(exact eD);(exact oD);(exact oD);exact kD)|(apply SY.ix;(exact eD);(exact oD);(exact oD);exact kD)|(first|(apply SY.fld0 vxT <;> (exact oD))|(apply SY.fld1 vxT <;> (exact oD))|(apply SY.mkV0 vxT <;> (exact oD))|(apply SY.mkV1 vxT <;> (exact oD))|(apply ZAo vxT <;> (exact oD)))|(apply Zb ZAA;exact OpD.t rfl)|exact ZAX ZAA|(apply ZAv ZAA;exact OpD.t rfl)|(apply ZBd;(exact OpD.t rfl);(exact aD))|(apply SY.buildE;(exact eD);((try simp only [List.map_cons,List.map_nil]);(repeat (first|exact ZR|(apply ZQ;(first|exact OpD.t rfl|exact OpD.i|exact OpD.b|exact OpD.tle rfl (by first|exact ZD|exact ZB (by decide))|exact ⟨ZD⟩|exact ⟨ZB (by decide)⟩)))));rfl;rfl;decide;(intro _;exact Zo);(exact (by simp)))|(apply SY.build1';(exact eD);((try simp only [List.map_cons,List.map_nil]);(repeat (first|exact ZR|(apply ZQ;(first|exact OpD.t rfl|exact OpD.i|exact OpD.b|exact OpD.tle rfl (by first|exact ZD|exact ZB (by decide))|exact ⟨ZD⟩|exact ⟨ZB (by decide)⟩)))));rfl;rfl;(intro _;first|exact Zq|exact Zv|exact Zt|exact shape_B);(exact (by simp)))|fail);all_goals infer_instance)));dsimp only [ZA,z0,z1])|((first|apply WL.opN|apply WD.opN);exact yF;dsimp only [ZA,z0,z1])|refine WL.nil ?_|refine WD.nil ?_|refine ZC fun Kx hK=>?_|(refine hK _ _ ?_;clear hK)|(refine Kont.skip ?_;clear hK)|refine WC.region ?_|(apply WC.draw;kernel_rfl;kernel_rfl)|((first|apply ZO|apply ZM);(exact eD);exact OpD.t rfl;(exact oD);(intro _;exact hD);(exact (by simp));(exact (by simp));(first|exact ⟨by decide,by decide⟩|skip);decide;(exact lD);(intro _;dsimp only [ZA,z0,z1]);all_goals (try infer_instance))|((first|apply WL.appK|apply WL.app1);(exact eD);exact OpD.t rfl;(exact oD);decide;(exact lD);(intro _;dsimp only [ZA,z0,z1]);all_goals (try infer_instance))|((apply (WL.perm (List.Perm.swap _ _ _));(first|apply ZO|apply ZM);(exact eD);exact OpD.t rfl;(exact oD);(intro _;exact hD);(exact (by simp));(exact (by simp));(first|exact ⟨by decide,by decide⟩|skip);decide;(exact lD);(intro _;dsimp only [ZA,z0,z1]);all_goals (try infer_instance)))|((apply (WL.perm (List.Perm.swap _ _ _));(first|apply WL.appK|apply WL.app1);(exact eD);exact OpD.t rfl;(exact oD);decide;(exact lD);(intro _;dsimp only [ZA,z0,z1]);all_goals (try infer_instance)))|((first|apply WL.opN|apply WD.opN);(focus ((first|(refine ZLB elI (OpD.t rfl) (OpD.t rfl) hk)|(apply ZBd (x:=(⟨ZBE bl 0 (fun _=>0) k,hp k hk⟩:{m:Nat // p m}));(exact OpD.t rfl);(exact aD))|((first|apply SY.move|apply SY.assign|apply SY.lss) <;> (exact oD))|((first|apply SY.add) <;> first|exact oD|omega)|(apply Zi;(exact eD);(exact oD);(exact oD);exact kD)|(first|(apply SY.fld0 vxT <;> (exact oD))|(apply SY.fld1 vxT <;> (exact oD))|(apply SY.mkV0 vxT <;> (exact oD))|(apply SY.mkV1 vxT <;> (exact oD))|(apply ZAo vxT <;> (exact oD)))|(apply SY.buildE;(exact eD);((try simp only [List.map_cons,List.map_nil]);(repeat (first|exact ZR|(apply ZQ;(first|exact OpD.t rfl|exact OpD.i|exact OpD.b|exact OpD.tle rfl (by first|exact ZD|exact ZB (by decide))|exact ⟨ZD⟩|exact ⟨ZB (by decide)⟩)))));rfl;rfl;decide;(intro _;exact Zo);(exact (by simp)))|fail);all_goals infer_instance));dsimp only [ZA,z0,z1])|(apply WC.condT;(exact oD);(with_reducible rfl))|(apply ZK;(exact oD);(with_reducible rfl))|(apply ZE;(exact oD);all_goals (intro h;try exact xD))|(apply WC.condN;(exact oD);all_goals (intro h;try exact xD))|(apply WC.condNB;(exact oD);all_goals (intro h;try exact xD))|(apply WC.cond;(exact oD);all_goals (intro h;try exact xD))|refine WC.skip ?_|refine WC.ret ?_|refine WC.exit ?_|refine WC.block ?_|refine ThenD.n ?_|refine ThenD.r ?_|refine ThenD.x ?_|refine InBlockD.x ?_|refine InBlockD.n ?_|refine InBlockD.r ?_|refine ZL (by decide) ?_));all_goals (first|refine WC.id ?_|refine WL.id ?_|((repeat clear hK);(repeat clear Kx))))
   all_goals try (exfalso;first|contradiction|omega)
   (refine ⟨(k+1,_) , ?_,by first|omega|(simp only;omega),by ((try simp only);  (rw [List.take_succ_eq_append_getElem hkl,ZDh hkl hk])),?_⟩;rotate_left;((try dsimp only [Za,z0,z1]);repeat (first|exact LeF.nil|refine ZF (k:=?_)));(try dsimp only))
   omega
  ·((repeat' (first|((first|apply WL.opN|apply WD.opN);exact yF;dsimp only [ZA,z0,z1])|refine WL.nil ?_|refine WD.nil ?_|refine ZC fun Kx hK=>?_|(refine hK _ _ ?_;clear hK)|(refine Kont.skip ?_;clear hK)|refine WC.region ?_|(apply WC.draw;kernel_rfl;kernel_rfl)|((first|apply ZO|apply ZM);(exact eD);exact OpD.t rfl;(exact oD);(intro _;exact hD);(exact (by simp));(exact (by simp));(first|exact ⟨by decide,by decide⟩|skip);decide;(exact lD);(intro _;dsimp only [ZA,z0,z1]);all_goals (try infer_instance))|((first|apply WL.appK|apply WL.app1);(exact eD);exact OpD.t rfl;(exact oD);decide;(exact lD);(intro _;dsimp only [ZA,z0,z1]);all_goals (try infer_instance))|((apply (WL.perm (List.Perm.swap _ _ _));(first|apply ZO|apply ZM);(exact eD);exact OpD.t rfl;(exact oD);(intro _;exact hD);(exact (by simp));(exact (by simp));(first|exact ⟨by decide,by decide⟩|skip);decide;(exact lD);(intro _;dsimp only [ZA,z0,z1]);all_goals (try infer_instance)))|((apply (WL.perm (List.Perm.swap _ _ _));(first|apply WL.appK|apply WL.app1);(exact eD);exact OpD.t rfl;(exact oD);decide;(exact lD);(intro _;dsimp only [ZA,z0,z1]);all_goals (try infer_instance)))|((first|apply WL.opN|apply WD.opN);(focus ((first|((first|apply SY.move|apply SY.assign|apply SY.lss) <;> (exact oD))|((first|apply SY.add) <;> first|exact oD|omega)|(apply SY.load;(exact tD);(exact oD))|(apply SY.len;(exact oD);(exact nD);(exact uD))|(apply ZV;exact OpD.t rfl;(first|exact .head _|exact .tail _ (.head _));(exact uD))|(apply Zf;exact OpD.t rfl;(first|exact .head _|exact .tail _ (.head _));(exact uD))|(apply Zi;(exact eD);(exact oD);(exact oD);exact kD)|(apply SY.ix;(exact eD);(exact oD);(exact oD);exact kD)|(first|(apply SY.fld0 vxT <;> (exact oD))|(apply SY.fld1 vxT <;> (exact oD))|(apply SY.mkV0 vxT <;> (exact oD))|(apply SY.mkV1 vxT <;> (exact oD))|(apply ZAo vxT <;> (exact oD)))|(apply Zb ZAA;exact OpD.t rfl)|exact ZAX ZAA|(apply ZAv ZAA;exact OpD.t rfl)|(apply ZBd;(exact OpD.t rfl);(exact aD))|(apply SY.buildE;(exact eD);((try simp only [List.map_cons,List.map_nil]);(repeat (first|exact ZR|(apply ZQ;(first|exact OpD.t rfl|exact OpD.i|exact OpD.b|exact OpD.tle rfl (by first|exact ZD|exact ZB (by decide))|exact ⟨ZD⟩|exact ⟨ZB (by decide)⟩)))));rfl;rfl;decide;(intro _;exact Zo);(exact (by simp)))|(apply SY.build1';(exact eD);((try simp only [List.map_cons,List.map_nil]);(repeat (first|exact ZR|(apply ZQ;(first|exact OpD.t rfl|exact OpD.i|exact OpD.b|exact OpD.tle rfl (by first|exact ZD|exact ZB (by decide))|exact ⟨ZD⟩|exact ⟨ZB (by decide)⟩)))));rfl;rfl;(intro _;first|exact Zq|exact Zv|exact Zt|exact shape_B);(exact (by simp)))|fail);all_goals infer_instance));dsimp only [ZA,z0,z1])|(apply WC.condT;(exact oD);(with_reducible rfl))|(apply ZK;(exact oD);(with_reducible rfl))|(apply ZE;(exact oD);all_goals (intro h;try exact xD))|(apply WC.condN;(exact oD);all_goals (intro h;try exact xD))|(apply WC.condNB;(exact oD);all_goals (intro h;try exact xD))|(apply WC.cond;(exact oD);all_goals (intro h;try exact xD))|refine WC.skip ?_|refine WC.ret ?_|refine WC.exit ?_|refine WC.block ?_|refine ThenD.n ?_|refine ThenD.r ?_|refine ThenD.x ?_|refine InBlockD.x ?_|refine InBlockD.n ?_|refine InBlockD.r ?_|refine ZL (by decide) ?_));all_goals (first|refine WC.id ?_|refine WL.id ?_|((repeat clear hK);(repeat clear Kx))))
   all_goals try (exfalso;first|contradiction|omega)
   (refine ⟨trivial,_,rfl,?_⟩;refine ZAQ (.head _) ?_)
   rw [List.take_of_length_le (by rw [ZBO];omega)]
end
end Go.Proofs.YtekiljakcngcoaaGreatDoor
