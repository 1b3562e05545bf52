/- Part 17: walks by contracts, and plain laws. -/
import Derived.Test.YtlgmojhmmbhgfaaGreatDoorVg16
set_option linter.unusedVariables false
set_option linter.unusedSimpArgs false
set_option linter.unusedSectionVars false
set_option maxRecDepth 100000
set_option maxHeartbeats 4000000
namespace Go.Proofs.YtlgmojhmmbhgfaaGreatDoor
section
open Go.RowKit

def ZDF (s:List Vx):Int:=if ZAJ s≠0 then ZAJ s else if Z0 s then 0 else 3
theorem ZF6 (s:List Vx):Fn Tryz.prog 50 [dS ZE s] (dI (ZDF s)):=by
 by_cases h0:ZAJ s=0
 ·have hc:=ZNY s
  have e:ZET s=(Z0 s,0):=by unfold ZET;rw [if_neg (by simp [h0])]
  rw [e] at hc
  have hk:=ZJ6 s
  rw [h0] at hk
  have e2:ZDF s=if Z0 s then 0 else 3:=by unfold ZDF;rw [if_neg (by simp [h0])]
  rw [e2]
  cases hd:Z0 s <;> rw [hd] at hc
  ·(refine ZG Tryz.func50 rfl rfl ?_;simp only [Tryz.ntmps50,List.length_cons,List.length_nil,Nat.reduceAdd,Nat.reduceSub,List.replicate_succ,List.replicate_zero,List.cons_append,List.nil_append])
   ((repeat' (first|(apply WL.opN;exact yF;dsimp only [ZB,z0,z1])|refine WL.nil ?_|refine ZA fun Kx hK=>?_|(refine hK _ _ ?_;clear hK)|refine WC.region ?_|(apply WL.opN;(focus ((first|(apply SY.call (hk) Tryz.call73;(exact aD))|(apply SY.call (hc) Tryz.call55;(exact aD))|((first|apply SY.move|apply SY.assign|apply SY.neq|apply SY.not) <;> (exact oD))|(apply SY.extract;(exact oD);rfl)|fail);all_goals infer_instance));dsimp only [ZB,z0,z1])|(apply ZL;(exact oD);all_goals (intro h;try exact xD))|(apply Z7;(exact oD);all_goals (intro h;try exact xD))|refine WC.skip ?_|refine WC.ret ?_|refine ThenD.r ?_));all_goals (first|((repeat clear hK);(repeat clear Kx))))
   (refine ⟨trivial,_,rfl,?_⟩;exact fD)
  ·(refine ZG Tryz.func50 rfl rfl ?_;simp only [Tryz.ntmps50,List.length_cons,List.length_nil,Nat.reduceAdd,Nat.reduceSub,List.replicate_succ,List.replicate_zero,List.cons_append,List.nil_append])
   ((repeat' (first|(apply WL.opN;exact yF;dsimp only [ZB,z0,z1])|refine WL.nil ?_|refine ZA fun Kx hK=>?_|(refine hK _ _ ?_;clear hK)|refine WC.region ?_|(apply WL.opN;(focus ((first|(apply SY.call (hk) Tryz.call73;(exact aD))|(apply SY.call (hc) Tryz.call55;(exact aD))|((first|apply SY.move|apply SY.assign|apply SY.neq|apply SY.not) <;> (exact oD))|(apply SY.extract;(exact oD);rfl)|fail);all_goals infer_instance));dsimp only [ZB,z0,z1])|(apply ZL;(exact oD);all_goals (intro h;try exact xD))|(apply Z7;(exact oD);all_goals (intro h;try exact xD))|refine WC.skip ?_|refine WC.ret ?_));all_goals (first|((repeat clear hK);(repeat clear Kx))))
   (refine ⟨trivial,_,rfl,?_⟩;exact fD)
 ·have hk:=ZJ6 s
  have e2:ZDF s=ZAJ s:=by unfold ZDF;rw [if_pos h0]
  rw [e2]
  (refine ZG Tryz.func50 rfl rfl ?_;simp only [Tryz.ntmps50,List.length_cons,List.length_nil,Nat.reduceAdd,Nat.reduceSub,List.replicate_succ,List.replicate_zero,List.cons_append,List.nil_append])
  ((repeat' (first|(apply WL.opN;exact yF;dsimp only [ZB,z0,z1])|refine WL.nil ?_|refine ZA fun Kx hK=>?_|(refine hK _ _ ?_;clear hK)|refine WC.region ?_|(apply WL.opN;(focus ((first|(apply SY.call (hk) Tryz.call73;(exact aD))|((first|apply SY.move|apply SY.assign|apply SY.neq|apply SY.not) <;> (exact oD))|fail);all_goals infer_instance));dsimp only [ZB,z0,z1])|(apply ZL;(exact oD);all_goals (intro h;try exact xD))|refine WC.ret ?_|refine ThenD.r ?_));all_goals (first|((repeat clear hK);(repeat clear Kx))))
  all_goals first|(refine ⟨trivial,_,rfl,?_⟩;exact fD)|(exfalso;omega)
theorem ZLQ (m:Int):Fn Tryz.prog 52 [dI m] (dI m):=by
 (refine ZG Tryz.func52 rfl rfl ?_;simp only [Tryz.ntmps52,List.length_cons,List.length_nil,Nat.reduceAdd,Nat.reduceSub,List.replicate_succ,List.replicate_zero,List.cons_append,List.nil_append])
 ((repeat' (first|(apply WL.opN;exact yF;dsimp only [ZB,z0,z1])|refine WL.nil ?_|refine ZA fun Kx hK=>?_|(refine hK _ _ ?_;clear hK)|refine WC.region ?_|refine WC.ret ?_));all_goals (first|((repeat clear hK);(repeat clear Kx))))
 (refine ⟨trivial,_,rfl,?_⟩;exact fD)
def ZFP (b m i:Nat) (o:Nat->Nat) (k:Nat):Nat:=if k<i/\ZGf b k=true then m ||| b else o k
theorem ZNx (b m:Nat) (o:Nat->Nat):ZFP b m 0 o=o:=funext fun k=>by unfold ZFP;rw [if_neg (by omega)]
theorem ZQV {n b m i:Nat} {o:Nat->Nat} (hb:ZGf b i=true):(ZGV n (ZFP b m i o)).set i ((m ||| b:Nat):Int)=ZGV n (ZFP b m (i+1) o):=by
 rw [ZRE]
 refine ZE8 fun k _=>?_
 unfold ZFP
 by_cases hk:k=i
 ·subst hk
  rw [if_pos rfl,if_pos ⟨by omega,hb⟩]
 ·rw [if_neg hk]
  by_cases hlt:k<i/\ZGf b k=true
  ·rw [if_pos hlt,if_pos ⟨by omega,hlt.2⟩]
  ·rw [if_neg hlt,if_neg fun q=>hlt ⟨by omega,q.2⟩]
theorem ZNw {n b m i:Nat} {o:Nat->Nat} (hb:ZGf b i=false):ZGV n (ZFP b m i o)=ZGV n (ZFP b m (i+1) o):=by
 refine ZE8 fun k _=>?_
 unfold ZFP
 by_cases hlt:k<i/\ZGf b k=true
 ·rw [if_pos hlt,if_pos ⟨by omega,hlt.2⟩]
 ·rw [if_neg hlt,if_neg fun q=>hlt ⟨by
   have:k≠i:=fun e=>by rw [e,hb] at q;cases q.2
   omega,q.2⟩]
theorem ZQU {n b m:Nat} {o:Nat->Nat}:ZGV n (ZFP b m n o)=ZGV n fun i=>if ZGf b i=true then m ||| b else o i:=by
 refine ZE8 fun k hk=>?_
 unfold ZFP
 by_cases hb:ZGf b k=true
 ·rw [if_pos ⟨hk,hb⟩,if_pos hb]
 ·rw [if_neg fun q=>hb q.2,if_neg hb]
theorem ZBl {b i:Nat}:((((b >>> i) &&& 1:Nat):Int)=1)↔ZGf b i=true:=by
 unfold ZGf
 rw [decide_eq_true_eq]
 omega
set_option maxHeartbeats 4000000 in
theorem ZGY (n:Nat) (bl:List Nat) (hn:n≤60) (hb:∀ b∈bl,b<1048576):Fn Tryz.prog 58 [dI (n:Int),dS ZBt (Zv bl)] (dS ZBt (ZGV n (ZBY bl 0 fun _=>0))):=by
 (refine ZG Tryz.func58 rfl rfl ?_;simp only [Tryz.ntmps58,List.length_cons,List.length_nil,Nat.reduceAdd,Nat.reduceSub,List.replicate_succ,List.replicate_zero,List.cons_append,List.nil_append])
 (first|refine ZS (t:=1) rfl ZFJ fun hl1=>?_|refine ZS (t:=1) rfl ZFI fun hl1=>?_|refine ZS (t:=1) rfl ZPV fun hl1=>?_);simp only [maxLen] at hl1
 rw [ZBA] at hl1
 (repeat' (first|(apply WL.opN;exact yF;dsimp only [ZB,z0,z1])|refine WL.nil ?_|refine ZA fun Kx hK=>?_|(refine hK _ _ ?_;clear hK)|refine WC.region ?_ |  (refine ZPn elI (OpD.t rfl) (OpD.t rfl) rfl (by omega) (by omega) fun v=>?_;dsimp only [ZB,z0,z1])|(apply WL.opN;(focus ((first|(apply SY.len;(exact oD);(exact nD);(exact uD))|fail);all_goals infer_instance));dsimp only [ZB,z0,z1])|refine WC.block ?_))
 rw [ZBA,<- ZO1]
 (refine WC.loopU (X:=Nat × Nat × (Nat->Nat)) (fun x=>[(14,dI (x.1:Int)),(6,dI (x.2.1:Int)),(8,dA),(9,dA),(15,dA),(16,dA),(17,dA),(18,dA),(19,dA),(20,dA),(21,dA),(22,dA),(23,dA),(24,dA),(25,dA),(26,dA),(27,dA),(28,dA),(29,dA),(30,dA),(31,dA),(32,dA),(33,dA),(34,dA),(35,dA)]) (fun x=>[ZW v 3 RI (ZGV n x.2.2)]) (fun x=>bl.length-x.1) (fun x=>x.1≤bl.length/\x.2.1<1048576/\ZBY (bl.drop x.1) x.2.1 x.2.2=ZBY bl 0 (fun _=>0)) (0,0,fun _=>0) ?start ?frame0 ?objs0 ?round)
 case start=>exact ⟨Nat.zero_le _,by decide,rfl⟩
 case frame0=>((try dsimp only [ZK,z0,z1]);repeat (first|exact LeF.nil|refine ZD (k:=?_)))
 case objs0=>rfl
 case round =>
  rintro ⟨j,m,o⟩ ⟨h1,h2,h3⟩
  simp only at h1 h2 h3
  dsimp only [ZK,z0,z1]
  by_cases hj:j<bl.length
  ·have hbj:bl[j]<1048576:=hb _ (List.getElem_mem hj)
   have hor:m ||| bl[j]<1048576:=Nat.or_lt_two_pow (n:=20) h2 hbj
   have hdr:bl.drop j=bl[j]::bl.drop (j+1):=List.drop_eq_getElem_cons hj
   rw [hdr] at h3
   (repeat' (first|(apply WL.opN;exact yF;dsimp only [ZB,z0,z1])|refine WL.nil ?_|refine ZA fun Kx hK=>?_|(refine hK _ _ ?_;clear hK)|refine WC.region ?_|(apply WL.opN;(focus ((first|(refine ZKh (a:=m) (b:=bl[j]) (by omega) (by omega) (OpD.t rfl) (OpD.t rfl))|(refine ZKf elI (OpD.t rfl) (OpD.t rfl) hj)|((first|apply SY.move|apply SY.assign|apply SY.lss|apply SY.eql|apply SY.and|apply SY.or) <;> (exact oD))|fail);all_goals infer_instance));dsimp only [ZB,z0,z1])|(apply ZC;(exact oD);all_goals (intro h;try exact xD))|refine WC.skip ?_|refine WC.block ?_))
   all_goals try (exfalso;first|contradiction|omega)
   have hz:o=ZFP bl[j] m 0 o:=(ZNx bl[j] m o).symm
   rw [hz]
   (refine WC.loopU (X:=Nat) (fun i=>[(22,dI (i:Int)),(9,dA),(23,dA),(24,dA),(25,dA),(26,dA),(27,dA),(28,dA),(29,dA),(30,dA),(31,dA),(32,dA),(33,dA),(34,dA)]) (fun i=>[ZW v 3 RI (ZGV n (ZFP bl[j] m i o))]) (fun i=>n-i) (fun i=>i≤n) 0 ?start ?frame0 ?objs0 ?round)
   case start=>exact Nat.zero_le _
   case frame0=>((try dsimp only [ZK,z0,z1]);repeat (first|exact LeF.nil|refine ZD (k:=?_)))
   case objs0=>rfl
   case round =>
    rintro i q1
    dsimp only [ZK,z0,z1]
    by_cases hi:i<n
    ·cases hbit:ZGf bl[j] i with
     | true =>
      have hcond:=ZBl.2 hbit
      ((repeat' (first|(apply WL.opN;exact yF;dsimp only [ZB,z0,z1])|refine WL.nil ?_|refine ZA fun Kx hK=>?_|(refine hK _ _ ?_;clear hK)|refine WC.region ?_ |  (apply ZEN;exact tyI;exact OpD.t rfl;exact OpD.t rfl;exact ZA4;(rw [ZEl];exact hi);dsimp only [ZB,z0,z1])|(apply WL.opN;(focus ((first|(refine ZCP (a:=bl[j]) (b:=i) (by omega) (OpD.t rfl) (OpD.t rfl))|(refine ZCO (m:=bl[j]) (i:=i) (by omega) (OpD.t rfl))|(apply ZGq;exact elI;exact OpD.t rfl;exact .head _;exact OpD.t rfl;rfl;(rw [ZEl];exact hi))|((first|apply SY.move|apply SY.assign|apply SY.lss|apply SY.eql|apply SY.and|apply SY.or) <;> (exact oD))|((first|apply SY.add) <;> first|exact oD|omega)|fail);all_goals infer_instance));dsimp only [ZB,z0,z1])|(apply ZC;(exact oD);all_goals (intro h;try exact xD))|refine WC.skip ?_|refine WC.block ?_|refine ThenD.n ?_));all_goals (first|((repeat clear hK);(repeat clear Kx))))
      all_goals try (exfalso;first|contradiction|omega)
      rw [ZQV hbit]
      (refine ⟨i+1,?_,by first|omega|(simp only;omega),rfl,?_⟩;rotate_left;((try dsimp only [ZK,z0,z1]);repeat (first|exact LeF.nil|refine ZD (k:=?_)));(try dsimp only))
      omega
     | false =>
      have hcond:¬ ((((bl[j] >>> i) &&& 1:Nat):Int)=1):=fun q=>by rw [ZBl.1 q] at hbit;cases hbit
      ((repeat' (first|(apply WL.opN;exact yF;dsimp only [ZB,z0,z1])|refine WL.nil ?_|refine ZA fun Kx hK=>?_|(refine hK _ _ ?_;clear hK)|refine WC.region ?_|(apply WL.opN;(focus ((first|(refine ZCP (a:=bl[j]) (b:=i) (by omega) (OpD.t rfl) (OpD.t rfl))|(refine ZCO (m:=bl[j]) (i:=i) (by omega) (OpD.t rfl))|((first|apply SY.move|apply SY.assign|apply SY.lss|apply SY.eql|apply SY.and|apply SY.or) <;> (exact oD))|((first|apply SY.add) <;> first|exact oD|omega)|fail);all_goals infer_instance));dsimp only [ZB,z0,z1])|(apply ZC;(exact oD);all_goals (intro h;try exact xD))|refine WC.skip ?_|refine WC.block ?_|refine ThenD.n ?_));all_goals (first|((repeat clear hK);(repeat clear Kx))))
      all_goals try (exfalso;first|contradiction|omega)
      rw [ZNw hbit]
      (refine ⟨i+1,?_,by first|omega|(simp only;omega),rfl,?_⟩;rotate_left;((try dsimp only [ZK,z0,z1]);repeat (first|exact LeF.nil|refine ZD (k:=?_)));(try dsimp only))
      omega
    ·have hin:i=n:=by omega
     subst hin
     ((repeat' (first|(apply WL.opN;exact yF;dsimp only [ZB,z0,z1])|refine WL.nil ?_|refine ZA fun Kx hK=>?_|(refine hK _ _ ?_;clear hK)|(refine Kont.skip ?_;clear hK)|refine WC.region ?_|(apply WL.opN;(focus ((first|((first|apply SY.move|apply SY.assign|apply SY.lss|apply SY.eql|apply SY.and|apply SY.or) <;> (exact oD))|((first|apply SY.add) <;> first|exact oD|omega)|fail);all_goals infer_instance));dsimp only [ZB,z0,z1])|(apply ZC;(exact oD);all_goals (intro h;try exact xD))|refine WC.exit ?_|refine ThenD.n ?_));all_goals (first|((repeat clear hK);(repeat clear Kx))))
     all_goals try (exfalso;first|contradiction|omega)
     rw [ZQU]
     (refine ⟨(j+1,m ||| bl[j],fun i=>if ZGf bl[j] i=true then m ||| bl[j] else o i),?_,by first|omega|(simp only;omega),rfl,?_⟩;rotate_left;((try dsimp only [ZK,z0,z1]);repeat (first|exact LeF.nil|refine ZD (k:=?_)));(try dsimp only))
     exact ⟨by omega,hor,h3⟩
  ·have hjl:j=bl.length:=by omega
   have ho:o=ZBY bl 0 fun _=>0:=by rw [<- h3,hjl,List.drop_length];rfl
   rw [ho]
   ((repeat' (first|(apply WL.opN;exact yF;dsimp only [ZB,z0,z1])|refine WL.nil ?_|refine ZA fun Kx hK=>?_|(refine hK _ _ ?_;clear hK)|(refine Kont.skip ?_;clear hK)|refine WC.region ?_|(apply WL.opN;(focus ((first|((first|apply SY.move|apply SY.assign|apply SY.lss|apply SY.eql|apply SY.and|apply SY.or) <;> (exact oD))|fail);all_goals infer_instance));dsimp only [ZB,z0,z1])|(apply ZC;(exact oD);all_goals (intro h;try exact xD))|refine WC.ret ?_|refine WC.exit ?_));all_goals (first|((repeat clear hK);(repeat clear Kx))))
   all_goals try (exfalso;first|contradiction|omega)
   (refine ⟨trivial,_,rfl,?_⟩;exact fD)
theorem ZRS {s:List Vx} {k:Nat} (h:k<s.length):(s.take (k+1)).zipIdx=(s.take k).zipIdx++[(s[k],k)]:=by
 rw [List.take_succ_eq_append_getElem h,List.zipIdx_append]
 simp [Nat.min_eq_left (Nat.le_of_lt h)]
theorem ZDY {s:List Vx} {m k:Nat} (h:k<s.length):atB (s.take (k+1)) m=atB (s.take k) m++if ZGf m k=true then [s[k]] else []:=by
 unfold atB
 rw [ZRS h,List.filter_append,List.map_append]
 congr 1
 show List.map (·.1) (List.filter (fun p:Vx × Nat=>ZGf m p.2) [(s[k],k)])=_
 cases hb:ZGf m k with
 | true=>rw [List.filter_cons_of_pos (by simpa using hb)];rfl
 | false=>rw [List.filter_cons_of_neg (by simp [hb])];rfl
theorem ZE0 (s:List Vx) (m:Nat):(atB s m).length≤s.length:=by
 unfold atB
 rw [List.length_map]
 exact Nat.le_trans (List.length_filter_le _ _) (by simp)
set_option maxHeartbeats 4000000 in
theorem ZNu (s:List Vx) (m:Nat) (hs:s.length≤60) (hm:m<1048576):Fn Tryz.prog 28 [dS ZE s,dI (m:Int)] (dS ZE (atB s m)):=by
 (refine ZG Tryz.func28 rfl rfl ?_;simp only [Tryz.ntmps28,List.length_cons,List.length_nil,Nat.reduceAdd,Nat.reduceSub,List.replicate_succ,List.replicate_zero,List.cons_append,List.nil_append])
 (repeat' (first|(apply WL.opN;exact yF;dsimp only [ZB,z0,z1])|refine WL.nil ?_|refine ZA fun Kx hK=>?_|(refine hK _ _ ?_;clear hK)|refine WC.region ?_|(apply WL.opN;(focus ((first|(apply SY.len;(exact oD);(exact nD);(exact uD))|fail);all_goals infer_instance));dsimp only [ZB,z0,z1])|refine WC.block ?_))
 refine ZAl 43 2 (by decide) RV ?_
 (refine WC.loopU (X:=Nat × Value) (fun x=>[(5,dX x.2),(10,dI (x.1:Int)),(6,dA),(7,dA),(11,dA),(12,dA),(13,dA),(14,dA),(15,dA),(16,dA),(17,dA),(18,dA),(19,dA),(20,dA),(21,dA),(22,dA),(23,dA),(24,dA)]) (fun x=>[ZV x.2 43 2 RV (atB (s.take x.1) m)]) (fun x=>s.length-x.1) (fun x=>x.1≤s.length) (0,.slice none 0 0) ?start ?frame0 ?objs0 ?round)
 case start=>simp
 case frame0=>((try dsimp only [ZK,z0,z1]);repeat (first|exact LeF.nil|refine ZD (k:=?_)))
 case objs0=>rfl
 case round =>
  rintro ⟨k,u⟩ h1
  dsimp only [ZK,z0,z1]
  simp only at h1
  have h2:(atB (s.take k) m).length≤1000:=by
   have:=ZE0 (s.take k) m
   rw [List.length_take] at this
   omega
  by_cases hk:k<s.length
  ·cases hb:ZGf m k with
   | true =>
    have hcond:=ZBl.2 hb
    ((repeat' (first|(apply WL.opN;exact yF;dsimp only [ZB,z0,z1])|refine WL.nil ?_|refine ZA fun Kx hK=>?_|(refine hK _ _ ?_;clear hK)|refine WC.region ?_|((first|apply ZBJ|apply ZA6);(exact eD);exact OpD.t rfl;(exact oD);(intro _;exact hD);(exact (by simp));(exact (by simp));(first|exact ⟨by decide,by decide⟩|skip);decide;(exact lD);(intro _;dsimp only [ZB,z0,z1]);all_goals (try infer_instance))|(apply WL.alloc;(first|exact tzV|exact tzC);(first|exact ZY rfl|exact ZAF|exact Zy rfl);(intro _;dsimp only [ZB,z0,z1]))|(apply ZN;(exact tD);rfl;(exact oD);(exact hD);dsimp only [ZB,z0,z1])|(apply WL.opN;(focus ((first|(refine ZCP (a:=m) (b:=k) (by omega) (OpD.t rfl) (OpD.t rfl))|(refine ZCO (m:=m) (i:=k) (by omega) (OpD.t rfl))|((first|apply SY.move|apply SY.assign|apply SY.lss|apply SY.eql|apply SY.and) <;> (exact oD))|((first|apply SY.add) <;> first|exact oD|omega)|(apply ZBC;(exact eD);(exact oD);(exact oD);exact kD)|fail);all_goals infer_instance));dsimp only [ZB,z0,z1])|(apply ZC;(exact oD);all_goals (intro h;try exact xD))|refine WC.skip ?_|refine WC.block ?_|refine ThenD.n ?_));all_goals (first|((repeat clear hK);(repeat clear Kx))))
    all_goals try (exfalso;first|contradiction|omega)
    (refine ⟨(k+1,_) , ?_,by first|omega|(simp only;omega),by ((try simp only);  (rw [ZDY hk,if_pos hb])),?_⟩;rotate_left;((try dsimp only [ZK,z0,z1]);repeat (first|exact LeF.nil|refine ZD (k:=?_)));(try dsimp only))
    omega
   | false =>
    have hcond:¬ ((((m >>> k) &&& 1:Nat):Int)=1):=fun q=>by rw [ZBl.1 q] at hb;cases hb
    ((repeat' (first|(apply WL.opN;exact yF;dsimp only [ZB,z0,z1])|refine WL.nil ?_|refine ZA fun Kx hK=>?_|(refine hK _ _ ?_;clear hK)|refine WC.region ?_|(apply WL.alloc;(first|exact tzV|exact tzC);(first|exact ZY rfl|exact ZAF|exact Zy rfl);(intro _;dsimp only [ZB,z0,z1]))|(apply ZN;(exact tD);rfl;(exact oD);(exact hD);dsimp only [ZB,z0,z1])|(apply WL.opN;(focus ((first|(refine ZCP (a:=m) (b:=k) (by omega) (OpD.t rfl) (OpD.t rfl))|(refine ZCO (m:=m) (i:=k) (by omega) (OpD.t rfl))|((first|apply SY.move|apply SY.assign|apply SY.lss|apply SY.eql|apply SY.and) <;> (exact oD))|((first|apply SY.add) <;> first|exact oD|omega)|(apply ZBC;(exact eD);(exact oD);(exact oD);exact kD)|fail);all_goals infer_instance));dsimp only [ZB,z0,z1])|(apply ZC;(exact oD);all_goals (intro h;try exact xD))|refine WC.skip ?_|refine WC.block ?_|refine ThenD.n ?_));all_goals (first|((repeat clear hK);(repeat clear Kx))))
    all_goals try (exfalso;first|contradiction|omega)
    (refine ⟨(k+1,_) , ?_,by first|omega|(simp only;omega),by ((try simp only);  (rw [ZDY hk,if_neg (by simp [hb]),List.append_nil])),?_⟩;rotate_left;((try dsimp only [ZK,z0,z1]);repeat (first|exact LeF.nil|refine ZD (k:=?_)));(try dsimp only))
    omega
  ·((repeat' (first|(apply WL.opN;exact yF;dsimp only [ZB,z0,z1])|refine WL.nil ?_|refine ZA fun Kx hK=>?_|(refine hK _ _ ?_;clear hK)|(refine Kont.skip ?_;clear hK)|refine WC.region ?_|(apply WL.opN;(focus ((first|((first|apply SY.move|apply SY.assign|apply SY.lss|apply SY.eql|apply SY.and) <;> (exact oD))|fail);all_goals infer_instance));dsimp only [ZB,z0,z1])|(apply ZC;(exact oD);all_goals (intro h;try exact xD))|refine WC.ret ?_|refine WC.exit ?_));all_goals (first|((repeat clear hK);(repeat clear Kx))))
   all_goals try (exfalso;first|contradiction|omega)
   (refine ⟨trivial,_,rfl,?_⟩;refine ZBQ (.head _) ?_)
   rw [List.take_of_length_le (by omega)]
abbrev ZQK (p:Nat->Prop) (L:Nat->Int):Dat:=ZJm Tryz.prog (fun m:{m:Nat // p m}=>[dI ((m.1:Nat):Int)]) (fun m=>dI (L m.1))
def Zz (L:Nat->Int) (s:List Vx) (bl:List Nat):List Vx:=s.zipIdx.map fun q=>(q.1.1,L (ZBY bl 0 (fun _=>0) q.2))
theorem ZBS (L:Nat->Int) (s:List Vx) (bl:List Nat):(Zz L s bl).length=s.length:=by simp [Zz]
theorem ZDo {L:Nat->Int} {s:List Vx} {bl:List Nat} {k:Nat} (h:k<(Zz L s bl).length) (h':k<s.length):(Zz L s bl)[k]=(s[k].1,L (ZBY bl 0 (fun _=>0) k)):=by simp [Zz]
theorem ZRU {P:Program} {ops:Array Oper} {hp:List HObj} {fr:List Dat} {dst:Option Tmp} {ty:TypeId} {ps:String} {af:Array Edge} {g:Option (Nat × Bool)} {x i:Operand} {t e:TypeId} {z:Value} {bytes:Nat} (E:ElT P t e 1 z bytes false) {n k:Nat} {f:Nat->Nat} (hx:OpD fr x (dS ZBt (ZGV n f))) (hi:OpD fr i (dI (k:Int))) (hk:k<n):SY P ops hp ⟨dst,.indexAddr t x i,ty,ps,af,g⟩ fr (dP 1 false (dI ((f k:Nat):Int))):=by
 have h:=ZAw (R:=RI) (_gR:=inferInstance) (P:=P) (ops:=ops) (hp:=hp) (dst:=dst) (ty:=ty) (ps:=ps) (af:=af) (g:=g) E hx hi (by rw [ZEl];exact hk)
 rwa [ZH7] at h
set_option maxHeartbeats 4000000 in
theorem ZNv (p:Nat->Prop) (L:Nat->Int) (s:List Vx) (bl:List Nat) (hs:s.length≤60) (hb:∀ b∈bl,b<1048576) (hp:∀ i,i<s.length->p (ZBY bl 0 (fun _=>0) i)):Fn Tryz.prog 51 [dS ZE s,dS ZBt (Zv bl),ZQK p L] (dS ZE (Zz L s bl)):=by
 (refine ZG Tryz.func51 rfl rfl ?_;simp only [Tryz.ntmps51,List.length_cons,List.length_nil,Nat.reduceAdd,Nat.reduceSub,List.replicate_succ,List.replicate_zero,List.cons_append,List.nil_append])
 (repeat' (first|((first|apply WL.opN|apply WD.opN);exact yF;dsimp only [ZB,z0,z1])|refine WL.nil ?_|refine ZA fun Kx hK=>?_|(refine hK _ _ ?_;clear hK)|refine WC.region ?_|((first|apply WL.opN|apply WD.opN);(focus ((first|(apply SY.call (ZGY s.length bl hs hb) Tryz.call58;(exact aD))|(apply SY.len;(exact oD);(exact nD);(exact uD))|fail);all_goals infer_instance));dsimp only [ZB,z0,z1])|refine WC.block ?_))
 refine ZAl 43 2 (by decide) RV ?_
 rw [ZEl]
 (refine WC.loopU (X:=Nat × Value) (fun x=>[(7,dX x.2),(15,dI (x.1:Int)),(8,dA),(9,dA),(16,dA),(17,dA),(18,dA),(19,dA),(20,dA),(21,dA),(22,dA),(23,dA),(24,dA),(25,dA),(26,dA),(27,dA),(28,dA),(29,dA),(30,dA),(31,dA),(32,dA)]) (fun x=>[ZV x.2 43 2 RV ((Zz L s bl).take x.1)]) (fun x=>s.length-x.1) (fun x=>x.1≤s.length) (0,.slice none 0 0) ?start ?frame0 ?objs0 ?round)
 case start=>simp
 case frame0=>((try dsimp only [ZK,z0,z1]);repeat (first|exact LeF.nil|refine ZD (k:=?_)))
 case objs0=>rfl
 case round =>
  rintro ⟨k,u⟩ h1
  dsimp only [ZK,z0,z1]
  simp only at h1
  have h2:((Zz L s bl).take k).length≤1000:=by rw [List.length_take];omega
  by_cases hk:k<s.length
  ·have hkl:k<(Zz L s bl).length:=by rw [ZBS];exact hk
   ((repeat' (first |  (apply WC.drawTail 11;kernel_rfl;kernel_rfl;simp only [List.take_succ_cons,List.take_zero,List.drop_succ_cons,List.drop_zero])|((first|apply WL.opN|apply WD.opN);exact yF;dsimp only [ZB,z0,z1])|refine WL.nil ?_|refine WD.nil ?_|refine ZA fun Kx hK=>?_|(refine hK _ _ ?_;clear hK)|refine WC.region ?_|((first|apply WL.appK|apply WL.app1);(exact eD);exact OpD.t rfl;(exact oD);decide;(exact lD);(intro _;dsimp only [ZB,z0,z1]);all_goals (try infer_instance))|((first|apply WL.opN|apply WD.opN);(focus ((first|(refine ZRU elI (OpD.t rfl) (OpD.t rfl) hk)|(apply ZD0 (x:=(⟨ZBY bl 0 (fun _=>0) k,hp k hk⟩:{m:Nat // p m}));(exact OpD.t rfl);(exact aD))|((first|apply SY.move|apply SY.assign|apply SY.lss) <;> (exact oD))|((first|apply SY.add) <;> first|exact oD|omega)|(apply ZBC;(exact eD);(exact oD);(exact oD);exact kD)|(first|(apply SY.fld0 vxT <;> (exact oD))|(apply SY.fld1 vxT <;> (exact oD))|(apply ZFr vxT <;> (exact oD))|(apply ZFs vxT <;> (exact oD))|(apply ZGs vxT <;> (exact oD)))|(apply SY.buildE;(exact eD);((try simp only [List.map_cons,List.map_nil]);(repeat (first|exact Zq|(apply Zh;(first|exact OpD.t rfl|exact OpD.i|exact OpD.b|exact OpD.tle rfl (by first|exact ZI|exact ZH (by decide))|exact ⟨ZI⟩|exact ⟨ZH (by decide)⟩)))));rfl;rfl;decide;(intro _;exact ZAV);(exact (by simp)))|fail);all_goals infer_instance));dsimp only [ZB,z0,z1])|(apply ZC;(exact oD);all_goals (intro h;try exact xD))|refine WC.skip ?_|refine WC.block ?_|refine ThenD.n ?_));all_goals (first|((repeat clear hK);(repeat clear Kx))))
   all_goals try (exfalso;first|contradiction|omega)
   (refine ⟨(k+1,_) , ?_,by first|omega|(simp only;omega),by ((try simp only);  (rw [List.take_succ_eq_append_getElem hkl,ZDo hkl hk])),?_⟩;rotate_left;((try dsimp only [ZK,z0,z1]);repeat (first|exact LeF.nil|refine ZD (k:=?_)));(try dsimp only))
   omega
  ·((repeat' (first|((first|apply WL.opN|apply WD.opN);exact yF;dsimp only [ZB,z0,z1])|refine WL.nil ?_|refine ZA fun Kx hK=>?_|(refine hK _ _ ?_;clear hK)|(refine Kont.skip ?_;clear hK)|refine WC.region ?_|((first|apply WL.opN|apply WD.opN);(focus ((first|((first|apply SY.move|apply SY.assign|apply SY.lss) <;> (exact oD))|fail);all_goals infer_instance));dsimp only [ZB,z0,z1])|(apply ZC;(exact oD);all_goals (intro h;try exact xD))|refine WC.ret ?_|refine WC.exit ?_));all_goals (first|((repeat clear hK);(repeat clear Kx))))
   all_goals try (exfalso;first|contradiction|omega)
   (refine ⟨trivial,_,rfl,?_⟩;refine ZBQ (.head _) ?_)
   rw [List.take_of_length_le (by rw [ZBS];omega)]
end
end Go.Proofs.YtlgmojhmmbhgfaaGreatDoor
