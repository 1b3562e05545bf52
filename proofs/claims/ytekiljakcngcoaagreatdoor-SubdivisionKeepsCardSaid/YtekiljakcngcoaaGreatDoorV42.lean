/- Part 42: walks by contracts, and plain laws. -/
import Derived.Test.YtekiljakcngcoaaGreatDoorV41
set_option linter.unusedVariables false
set_option linter.unusedSimpArgs false
set_option linter.unusedSectionVars false
set_option maxRecDepth 100000
set_option maxHeartbeats 4000000
namespace Go.Proofs.YtekiljakcngcoaaGreatDoor
section
open Go.RowKit

variable {S:Prop}
theorem ZIe {x:Vx}:(dS (RLS S RV) x).Shape 2 true:=fun I w v h=>Zo I w v h.1
theorem ZJv {s:List Vx} (hs:Z3 s=0):∀ v∈s,okL v:=fun v hv=>by
 have:=(ZP.1 hs).2.2.1 v hv
 unfold ZEy at this
 simp only [Bool.and_eq_true,decide_eq_true_eq] at this
 unfold okL
 omega
theorem ZH2 {s:List Vx} (hs:Z3 s=0) {k:Nat} {x:List Vx} (hx:x∈Zw (k+1) s):x.length≤1000/\(∀ v∈x,okL v)/\okS (txS x):=by
 obtain ⟨f1,f2,_⟩:=ZCY hs (by omega) hx
 have h8:=(ZES f1).2
 have hv:=ZJv f1
 refine ⟨by omega,hv,?_⟩
 have:=ZEu hv
 unfold okS
 omega
theorem ZH1 {l:Cx} (hg:∀ s∈l,Z3 s=0):∀ x∈ZFW l,okS (txS x):=fun x hx=>by
 obtain ⟨s,hs,hx⟩:=List.mem_flatMap.1 hx
 obtain ⟨k,_,hx⟩:=List.mem_flatMap.1 hx
 exact (ZH2 (hg s hs) hx).2.2
set_option maxHeartbeats 8000000 in
theorem ZLo (l:Cx) (hl:l.length≤100000) (hg:∀ s∈l,Z3 s=0) (hS:S->ZSF l):Fn Tryz.prog 26 [dS (ZUS S) l] (dS (ZHU kvS RI) (ZA2 l)):=by
 (refine ZH Tryz.func26 rfl rfl ?_;simp only [Tryz.ntmps26,List.length_cons,List.length_nil,Nat.reduceAdd,Nat.reduceSub,List.replicate_succ,List.replicate_zero,List.cons_append,List.nil_append])
 (repeat' (first|(apply WL.opN;exact yF;dsimp only [ZA,z0,z1])|refine WL.nil ?_|refine ZC fun Kx hK=>?_|(refine hK _ _ ?_;clear hK)|refine WC.region ?_ |  (refine WL.makeMap kvS vvI fun b=>?_;dsimp only [ZA,z0,z1])|(apply WL.opN;(focus ((first|(apply SY.len;(exact oD);(exact nD);(exact uD))|(apply Zb ZAA;exact OpD.t rfl)|(apply SY.box;(exact oD);(exact hD))|fail);all_goals infer_instance));dsimp only [ZA,z0,z1])|refine WC.block ?_))
 have hn8:∀ s∈l,s.length≤8:=fun s hs=>(ZES (hg s hs)).2
 (refine WC.loopU (X:=Nat) (fun i=>[(17,dI (i:Int)),(5,dA),(6,dA),(7,dA),(8,dA),(10,dA),(11,dA),(12,dA),(18,dA),(19,dA),(20,dA),(21,dA),(22,dA),(23,dA),(24,dA),(25,dA),(26,dA),(27,dA),(28,dA),(29,dA),(30,dA),(31,dA),(32,dA),(33,dA),(34,dA),(35,dA),(36,dA),(37,dA),(38,dA),(39,dA),(40,dA),(41,dA),(42,dA),(43,dA),(44,dA),(45,dA),(46,dA),(47,dA),(48,dA),(49,dA),(50,dA),(51,dA),(52,dA),(53,dA),(54,dA),(55,dA)]) (fun i=>[hM b kvS vvI ((ZFW (l.take i)).foldl ZFg [])]) (fun i=>l.length-i) (fun i=>i≤l.length) 0 ?start ?frame0 ?objs0 ?round)
 case start=>exact Nat.zero_le _
 case frame0=>((try dsimp only [Za,z0,z1]);repeat (first|exact LeF.nil|refine ZF (k:=?_)))
 case objs0=>rfl
 case round =>
  rintro i h1
  dsimp only [Za,z0,z1]
  by_cases hi:i<l.length
  ·have hgi:=hg _ (List.getElem_mem hi)
   obtain ⟨p1,p2⟩:=ZES hgi
   have e:=ZOc hi
   have hne:l[i]≠[]:=fun q=>by rw [q] at p1;simp at p1
   have hpl:=ZQ6 (l:=l.take i) fun s hs=>hn8 s (List.mem_of_mem_take hs)
   rw [List.length_take] at hpl
   (repeat' (first|(apply WL.opN;exact yF;dsimp only [ZA,z0,z1])|refine WL.nil ?_|refine ZC fun Kx hK=>?_|(refine hK _ _ ?_;clear hK)|refine WC.region ?_|(apply WL.opN;(focus ((first|((first|apply SY.move|apply SY.assign|apply SY.lss|apply SY.not) <;> (exact oD))|(apply SY.len;(exact oD);(exact nD);(exact uD))|(apply SY.ix;(exact eD);(exact oD);(exact oD);exact kD)|fail);all_goals infer_instance));dsimp only [ZA,z0,z1])|(apply ZE;(exact oD);all_goals (intro h;try exact xD))|refine WC.skip ?_|refine WC.block ?_))
   (refine WC.loopU (X:=Nat) (fun k=>[(23,dI (k:Int)),(6,dA),(7,dA),(8,dA),(10,dA),(11,dA),(12,dA),(24,dA),(25,dA),(26,dA),(27,dA),(28,dA),(29,dA),(30,dA),(31,dA),(32,dA),(33,dA),(34,dA),(35,dA),(36,dA),(37,dA),(38,dA),(39,dA),(40,dA),(41,dA),(42,dA),(43,dA),(44,dA),(45,dA),(46,dA),(47,dA),(48,dA),(49,dA),(50,dA),(51,dA),(52,dA),(53,dA),(54,dA)]) (fun k=>[hM b kvS vvI ((ZFW (l.take i)++(List.range k).flatMap (fun k=>Zw (k+1) l[i])).foldl ZFg [])]) (fun k=>l[i].length-k) (fun k=>k≤l[i].length) 0 ?start ?frame0 ?objs0 ?round)
   case start=>exact Nat.zero_le _
   case frame0=>((try dsimp only [Za,z0,z1]);repeat (first|exact LeF.nil|refine ZF (k:=?_)))
   case objs0=>simp
   case round =>
    rintro k k1
    dsimp only [Za,z0,z1]
    by_cases hk:k<l[i].length
    ·have hF:Fn Tryz.prog 53 [dS ZI l[i],dI ((k:Int)+1)] (dT [dS ZAe (Zw (k+1) l[i]),dI 0]):=by
      have:=ZLp l[i] ((k+1:Nat):Int)
      rwa [ZGN hgi (by omega) (by omega)] at this
     have hTl:=ZK1 p2 (k+1)
     have hTc:∀ t∈Zw (k+1) l[i],t.length≤1000/\(∀ v∈t,okL v)/\okS (txS t):=fun t ht=>ZH2 hgi ht
     have hTs:S->∀ t∈Zw (k+1) l[i],∀ v∈t,v.1<100/\v.2<100:=fun q t ht v hv=>⟨(hS q _ (List.getElem_mem hi) v ((ZCY hgi (by omega) ht).2.1.subset hv)).1.2,(hS q _ (List.getElem_mem hi) v ((ZCY hgi (by omega) ht).2.1.subset hv)).2.2⟩
     have hPKo:∀ x∈(List.range k).flatMap (fun k=>Zw (k+1) l[i]),okS (txS x):=fun x hx=>by
      obtain ⟨k',_,hx⟩:=List.mem_flatMap.1 hx
      exact (ZH2 hgi hx).2.2
     have hPCo:∀ x∈ZFW (l.take i),okS (txS x):=ZH1 fun s hs=>hg s (List.mem_of_mem_take hs)
     have hpk:=ZCZ (fun k=>Zw (k+1) l[i]) 256 (List.range k) fun k _=>ZK1 p2 _
     rw [List.length_range] at hpk
     have ek:(List.range (k+1)).flatMap (fun k=>Zw (k+1) l[i])=(List.range k).flatMap (fun k=>Zw (k+1) l[i])++Zw (k+1) l[i]:=by
      rw [List.range_succ,List.flatMap_append];simp
     generalize (List.range k).flatMap (fun k=>Zw (k+1) l[i])=PK at *
     generalize ZFW (l.take i)=PC at *
     generalize Zw (k+1) l[i]=T at *
     (repeat' (first|(apply WL.opN;exact yF;dsimp only [ZA,z0,z1])|refine WL.nil ?_|refine ZC fun Kx hK=>?_|(refine hK _ _ ?_;clear hK)|refine WC.region ?_|(apply WL.opN;(focus ((first|(apply SY.call hF Tryz.call53;exact ArgsD.cons (OpD.tle rfl ZRW) (ArgsD.cons (OpD.t rfl) ArgsD.nil))|((first|apply SY.move|apply SY.assign|apply SY.lss|apply SY.not) <;> (exact oD))|((first|apply SY.add) <;> first|exact oD|omega)|(apply SY.len;(exact oD);(exact nD);(exact uD))|(apply SY.extract;(exact oD);rfl)|fail);all_goals infer_instance));dsimp only [ZA,z0,z1])|(apply ZE;(exact oD);all_goals (intro h;try exact xD))|refine WC.skip ?_|refine WC.block ?_))
     all_goals first|(exfalso;omega)|skip
     (refine WC.loopU (X:=Nat) (fun j=>[(35,dI (j:Int)),(10,dA),(11,dA),(12,dA),(36,dA),(37,dA),(38,dA),(39,dA),(40,dA),(41,dA),(42,dA),(43,dA),(44,dA),(45,dA),(46,dA),(47,dA),(48,dA),(49,dA),(50,dA),(51,dA),(52,dA),(53,dA)]) (fun j=>[hM b kvS vvI ((PC++PK++T.take j).foldl ZFg [])]) (fun j=>T.length-j) (fun j=>j≤T.length) 0 ?start ?frame0 ?objs0 ?round)
     case start=>exact Nat.zero_le _
     case frame0=>((try dsimp only [Za,z0,z1]);repeat (first|exact LeF.nil|refine ZF (k:=?_)))
     case objs0=>simp
     case round =>
      rintro j q1
      dsimp only [Za,z0,z1]
      by_cases hj:j<T.length
      ·obtain ⟨t1,t2,t3⟩:=hTc _ (List.getElem_mem hj)
       have cT:=ZK2 T[j] t1 t2 fun q=>hTs q _ (List.getElem_mem hj)
       have hn:=ZEm (PC++PK++T.take j) (M:=[]) List.Pairwise.nil
       have hok:∀ p∈(PC++PK++T.take j).foldl ZFg [],okS p.1:=ZIK _ (fun x hx=>by
        rcases List.mem_append.1 hx with hx|hx
        ·rcases List.mem_append.1 hx with hx|hx
         ·exact hPCo x hx
         ·exact hPKo x hx
        ·exact (hTc x (List.mem_of_mem_take hx)).2.2) (by simp)
       have ej:(PC++PK++T.take (j+1)).foldl ZFg []=ZFg ((PC++PK++T.take j).foldl ZFg []) T[j]:=by
        rw [List.take_succ_eq_append_getElem hj,<- List.append_assoc,List.foldl_append];rfl
       have hML:=ZMC (PC++PK++T.take j) []
       rw [List.length_append,List.length_append,List.length_take,List.length_nil] at hML
       generalize (PC++PK++T.take j).foldl ZFg []=M at *
       cases hs:(lookM M (txS T[j])).isSome with
       | true =>
        rw [show ZFg M T[j]=M from if_pos hs] at ej
        ((repeat' (first|(apply WL.opN;exact yF;dsimp only [ZA,z0,z1])|refine WL.nil ?_|refine ZC fun Kx hK=>?_|(refine hK _ _ ?_;clear hK)|refine WC.region ?_ |  (refine WL.gain 41 5 hne rfl rfl ?_;dsimp only [z0,z1]) |  (refine WL.gain 49 5 hne rfl rfl ?_;dsimp only [z0,z1])|(apply WL.opN;(focus ((first|(apply SY.call (cT) Tryz.call29;(exact aD))|(refine ZEB (v:=txS T[j]) ZDf ZJj (OpD.t rfl) (.head _) (OpD.t rfl) isX t3 hok hn)|((first|apply SY.move|apply SY.assign|apply SY.lss|apply SY.not) <;> (exact oD))|((first|apply SY.add) <;> first|exact oD|omega)|(apply SY.ix;(exact eD);(exact oD);(exact oD);exact kD)|(apply SY.extract;(exact oD);rfl)|fail);all_goals infer_instance));dsimp only [ZA,z0,z1])|(apply ZE;(exact oD);all_goals (intro h;try exact xD))|(apply WC.condNB;(exact oD);all_goals (intro h;try exact xD))|refine WC.skip ?_|refine WC.block ?_|refine ThenD.n ?_));all_goals (first|refine WL.id ?_|((repeat clear hK);(repeat clear Kx))))
        all_goals first|(exfalso;omega)|(exfalso;rw [hs] at h;cases h;done)|skip
        (refine ⟨j+1 , ?_,by first|omega|(simp only;omega),by ((try simp only);  rw [ej]),?_⟩;rotate_left;((try dsimp only [Za,z0,z1]);repeat (first|exact LeF.nil|refine ZF (k:=?_)));(try dsimp only))
        omega
       | false =>
        rw [show ZFg M T[j]=ZBr M (txS T[j]) (M.length:Int) from if_neg (by rw [hs];decide)] at ej
        ((repeat' (first|(apply WL.opN;exact yF;dsimp only [ZA,z0,z1])|refine WL.nil ?_|refine ZC fun Kx hK=>?_|(refine hK _ _ ?_;clear hK)|refine WC.region ?_ |  (refine WL.gain 41 5 hne rfl rfl ?_;dsimp only [z0,z1]) |  (refine WL.gain 49 5 hne rfl rfl ?_;dsimp only [z0,z1]) |  (refine ZEI (v:=txS T[j]) (u:=(M.length:Int)) ZDf ZJj (OpD.t rfl) (OpD.t rfl) isX (OpD.t rfl) ⟨fun _ _ _ h=>h⟩ t3 hok hn ?_;dsimp only [ZA,z0,z1])|(apply WL.opN;(focus ((first|(apply SY.call (cT) Tryz.call29;(exact aD))|(refine ZEB (v:=txS T[j]) ZDf ZJj (OpD.t rfl) (.head _) (OpD.t rfl) isX t3 hok hn)|(refine ZNM ZDf (OpD.t rfl) (.head _))|((first|apply SY.move|apply SY.assign|apply SY.lss|apply SY.not) <;> (exact oD))|((first|apply SY.add) <;> first|exact oD|omega)|(apply SY.ix;(exact eD);(exact oD);(exact oD);exact kD)|(apply SY.extract;(exact oD);rfl)|fail);all_goals infer_instance));dsimp only [ZA,z0,z1])|(apply ZE;(exact oD);all_goals (intro h;try exact xD))|(apply WC.condNB;(exact oD);all_goals (intro h;try exact xD))|refine WC.skip ?_|refine WC.block ?_|refine ThenD.n ?_));all_goals (first|((repeat clear hK);(repeat clear Kx))))
        all_goals first|(exfalso;omega)|(exfalso;rw [hs] at h;cases h;done)|skip
        (refine ⟨j+1 , ?_,by first|omega|(simp only;omega),by ((try simp only);  rw [ej]),?_⟩;rotate_left;((try dsimp only [Za,z0,z1]);repeat (first|exact LeF.nil|refine ZF (k:=?_)));(try dsimp only))
        omega
      ·rw [List.take_of_length_le (by omega)]
       ((repeat' (first|(apply WL.opN;exact yF;dsimp only [ZA,z0,z1])|refine WL.nil ?_|refine ZC fun Kx hK=>?_|(refine hK _ _ ?_;clear hK)|(refine Kont.skip ?_;clear hK)|refine WC.region ?_|(apply WL.opN;(focus ((first|((first|apply SY.move|apply SY.assign|apply SY.lss|apply SY.not) <;> (exact oD))|((first|apply SY.add) <;> first|exact oD|omega)|fail);all_goals infer_instance));dsimp only [ZA,z0,z1])|(apply ZE;(exact oD);all_goals (intro h;try exact xD))|refine WC.exit ?_|refine ThenD.n ?_));all_goals (first|((repeat clear hK);(repeat clear Kx))))
       (refine ⟨k+1 , ?_,by first|omega|(simp only;omega),by ((try simp only);  rw [ek,List.append_assoc]),?_⟩;rotate_left;((try dsimp only [Za,z0,z1]);repeat (first|exact LeF.nil|refine ZF (k:=?_)));(try dsimp only))
       omega
    ·have hke:k=l[i].length:=by omega
     subst hke
     ((repeat' (first|(apply WL.opN;exact yF;dsimp only [ZA,z0,z1])|refine WL.nil ?_|refine ZC fun Kx hK=>?_|(refine hK _ _ ?_;clear hK)|(refine Kont.skip ?_;clear hK)|refine WC.region ?_|(apply WL.opN;(focus ((first|((first|apply SY.move|apply SY.assign|apply SY.lss|apply SY.not) <;> (exact oD))|((first|apply SY.add) <;> first|exact oD|omega)|fail);all_goals infer_instance));dsimp only [ZA,z0,z1])|(apply ZE;(exact oD);all_goals (intro h;try exact xD))|refine WC.exit ?_|refine ThenD.n ?_));all_goals (first|((repeat clear hK);(repeat clear Kx))))
     all_goals first|(exfalso;omega)|skip
     (refine ⟨i+1 , ?_,by first|omega|(simp only;omega),by ((try simp only);  rw [e];rfl),?_⟩;rotate_left;((try dsimp only [Za,z0,z1]);repeat (first|exact LeF.nil|refine ZF (k:=?_)));(try dsimp only))
     omega
  ·rw [List.take_of_length_le (by omega)]
   ((repeat' (first|(apply WL.opN;exact yF;dsimp only [ZA,z0,z1])|refine WL.nil ?_|refine ZC fun Kx hK=>?_|(refine hK _ _ ?_;clear hK)|(refine Kont.skip ?_;clear hK)|refine WC.region ?_|(apply WL.opN;(focus ((first|((first|apply SY.move|apply SY.assign|apply SY.lss|apply SY.not) <;> (exact oD))|fail);all_goals infer_instance));dsimp only [ZA,z0,z1])|(apply ZE;(exact oD);all_goals (intro h;try exact xD))|refine WC.ret ?_|refine WC.exit ?_));all_goals (first|((repeat clear hK);(repeat clear Kx))))
   refine ⟨trivial,_,rfl,?_⟩
   exact FinD.mapN (.head _)
set_option maxHeartbeats 4000000 in
theorem ZOf (s:List Vx) (m:Nat) (hs:s.length≤60) (hm:m<1048576):Fn Tryz.prog 30 [dS (ZBD S) s,dI (m:Int)] (dS (ZBD S) (atB s m)):=by
 (refine ZH Tryz.func30 rfl rfl ?_;simp only [Tryz.ntmps30,List.length_cons,List.length_nil,Nat.reduceAdd,Nat.reduceSub,List.replicate_succ,List.replicate_zero,List.cons_append,List.nil_append])
 (repeat' (first|(apply WL.opN;exact yF;dsimp only [ZA,z0,z1])|refine WL.nil ?_|refine ZC fun Kx hK=>?_|(refine hK _ _ ?_;clear hK)|refine WC.region ?_|(apply WL.opN;(focus ((first|(apply SY.len;(exact oD);(exact nD);(exact uD))|fail);all_goals infer_instance));dsimp only [ZA,z0,z1])|refine WC.block ?_))
 refine ZBz 50 2 (by decide) (RLS S RV) ?_
 (refine WC.loopU (X:=Nat × Value) (fun x=>[(5,dX x.2),(10,dI (x.1:Int)),(6,dA),(7,dA),(11,dA),(12,dA),(13,dA),(14,dA),(15,dA),(16,dA),(17,dA),(18,dA),(19,dA),(20,dA),(21,dA),(22,dA),(23,dA),(24,dA)]) (fun x=>[Zp x.2 50 2 (RLS S RV) (atB (s.take x.1) m)]) (fun x=>s.length-x.1) (fun x=>x.1≤s.length) (0,.slice none 0 0) ?start ?frame0 ?objs0 ?round)
 case start=>simp
 case frame0=>((try dsimp only [Za,z0,z1]);repeat (first|exact LeF.nil|refine ZF (k:=?_)))
 case objs0=>rfl
 case round =>
  rintro ⟨k,u⟩ h1
  dsimp only [Za,z0,z1]
  simp only at h1
  have h2:(atB (s.take k) m).length≤1000:=by
   have:=ZGB (s.take k) m
   rw [List.length_take] at this
   omega
  by_cases hk:k<s.length
  ·cases hb:ZJE m k with
   | true =>
    have hcond:=ZDY.2 hb
    ((repeat' (first |  (refine ZDV (t:=7) rfl ?_;dsimp only [z0,z1])|(apply WL.opN;exact yF;dsimp only [ZA,z0,z1])|refine WL.nil ?_|refine ZC fun Kx hK=>?_|(refine hK _ _ ?_;clear hK)|refine WC.region ?_ |  (refine ZAK tyV (OpD.t rfl) (OpD.t rfl) ZIe ?_;dsimp only [ZA,z0,z1])|((first|apply WL.appK|apply WL.app1);(exact eD);exact OpD.t rfl;(exact oD);decide;(exact lD);(intro _;dsimp only [ZA,z0,z1]);all_goals (try infer_instance))|(apply WL.alloc;(first|exact tzV|exact tzC);(first|exact ZN rfl|exact ZW|exact ZX rfl);(intro _;dsimp only [ZA,z0,z1]))|(apply WL.opN;(focus ((first|(exact SY.buildE (R:=RLS S RV) (_gR:=inferInstance) (els:=[s[k]]) elV (ZQ (OpD.t rfl) ZR) rfl rfl (by decide) (fun _=>ZIe) (by simp))|(refine ZE1 (a:=m) (b:=k) (by omega) (OpD.t rfl) (OpD.t rfl))|(refine ZEz (m:=m) (i:=k) (by omega) (OpD.t rfl))|((first|apply SY.move|apply SY.assign|apply SY.lss|apply SY.eql|apply SY.and) <;> (exact oD))|((first|apply SY.add) <;> first|exact oD|omega)|(apply Zi;(exact eD);(exact oD);(exact oD);exact kD)|fail);all_goals infer_instance));dsimp only [ZA,z0,z1])|(apply ZE;(exact oD);all_goals (intro h;try exact xD))|refine WC.skip ?_|refine WC.block ?_|refine ThenD.n ?_));all_goals (first|((repeat clear hK);(repeat clear Kx))))
    all_goals try (exfalso;first|contradiction|omega)
    (refine ⟨(k+1,_) , ?_,by first|omega|(simp only;omega),by ((try simp only);  (rw [ZFn hk,if_pos hb])),?_⟩;rotate_left;((try dsimp only [Za,z0,z1]);repeat (first|exact LeF.nil|refine ZF (k:=?_)));(try dsimp only))
    omega
   | false =>
    have hcond:¬ ((((m >>> k) &&& 1:Nat):Int)=1):=fun q=>by rw [ZDY.1 q] at hb;cases hb
    ((repeat' (first |  (refine ZDV (t:=7) rfl ?_;dsimp only [z0,z1])|(apply WL.opN;exact yF;dsimp only [ZA,z0,z1])|refine WL.nil ?_|refine ZC fun Kx hK=>?_|(refine hK _ _ ?_;clear hK)|refine WC.region ?_ |  (refine ZAK tyV (OpD.t rfl) (OpD.t rfl) ZIe ?_;dsimp only [ZA,z0,z1])|(apply WL.alloc;(first|exact tzV|exact tzC);(first|exact ZN rfl|exact ZW|exact ZX rfl);(intro _;dsimp only [ZA,z0,z1]))|(apply WL.opN;(focus ((first|(refine ZE1 (a:=m) (b:=k) (by omega) (OpD.t rfl) (OpD.t rfl))|(refine ZEz (m:=m) (i:=k) (by omega) (OpD.t rfl))|((first|apply SY.move|apply SY.assign|apply SY.lss|apply SY.eql|apply SY.and) <;> (exact oD))|((first|apply SY.add) <;> first|exact oD|omega)|(apply Zi;(exact eD);(exact oD);(exact oD);exact kD)|fail);all_goals infer_instance));dsimp only [ZA,z0,z1])|(apply ZE;(exact oD);all_goals (intro h;try exact xD))|refine WC.skip ?_|refine WC.block ?_|refine ThenD.n ?_));all_goals (first|((repeat clear hK);(repeat clear Kx))))
    all_goals try (exfalso;first|contradiction|omega)
    (refine ⟨(k+1,_) , ?_,by first|omega|(simp only;omega),by ((try simp only);  (rw [ZFn hk,if_neg (by simp [hb]),List.append_nil])),?_⟩;rotate_left;((try dsimp only [Za,z0,z1]);repeat (first|exact LeF.nil|refine ZF (k:=?_)));(try dsimp only))
    omega
  ·((repeat' (first|(apply WL.opN;exact yF;dsimp only [ZA,z0,z1])|refine WL.nil ?_|refine ZC fun Kx hK=>?_|(refine hK _ _ ?_;clear hK)|(refine Kont.skip ?_;clear hK)|refine WC.region ?_|(apply WL.opN;(focus ((first|((first|apply SY.move|apply SY.assign|apply SY.lss|apply SY.eql|apply SY.and) <;> (exact oD))|fail);all_goals infer_instance));dsimp only [ZA,z0,z1])|(apply ZE;(exact oD);all_goals (intro h;try exact xD))|refine WC.ret ?_|refine WC.exit ?_));all_goals (first|((repeat clear hK);(repeat clear Kx))))
   all_goals try (exfalso;first|contradiction|omega)
   (refine ⟨trivial,_,rfl,?_⟩;refine ZAQ (.head _) ?_)
   rw [List.take_of_length_le (by omega)]
theorem ZVK {l:Cx} (hg:∀ s∈l,Z3 s=0):(∀ p∈ZA2 l,okS p.1)/\((ZA2 l).map (·.1)).Nodup:=⟨ZIK _ (ZH1 hg) (by simp),ZEm _ List.Pairwise.nil⟩
theorem ZTT (M:ZDu) (s:List Vx) (m:Nat) (hs:Z3 s=0) (hm:m<1048576) (hMo:∀ p∈M,okS p.1) (hMk:(M.map (·.1)).Nodup):Fn Tryz.prog 28 [dI (m:Int),dP 1 false (dS (ZHU kvS RI) M),dP 1 false (dS ZNQ s)] (dI (ZQD M (atB s m))):=by
 have h8:=(ZP.1 hs).2.1
 have hface:=ZOf (S:=False) s m (by omega) hm
 have hv:∀ v∈atB s m,okL v:=fun v hv=>ZJv hs v (ZHk _ _ v hv)
 have hl:=ZGB s m
 have htext:=ZUK (atB s m) (by omega) hv
 have htl:=ZEu hv
 have hok1:okS (txS (atB s m)):=by unfold okS;omega
 unfold ZQD
 (refine ZH Tryz.func28 rfl rfl ?_;simp only [Tryz.ntmps28,List.length_cons,List.length_nil,Nat.reduceAdd,Nat.reduceSub,List.replicate_succ,List.replicate_zero,List.cons_append,List.nil_append])
 ((repeat' (first|((first|apply WL.opN|apply WD.opN);exact yF;dsimp only [ZA,z0,z1])|refine WL.nil ?_|refine WD.nil ?_|refine ZC fun Kx hK=>?_|(refine hK _ _ ?_;clear hK)|refine WC.region ?_|(apply WC.draw;kernel_rfl;kernel_rfl)|((first|apply WL.opN|apply WD.opN);(focus ((first|(apply SY.load;exact ZR7;exact OpD.t rfl)|(apply SY.call (hface) Tryz.call30;(exact aD))|(apply SY.call (htext) Tryz.call29;(exact aD))|(refine ZED (v:=txS (atB s m)) (a0:=(0:Int)) ZDf ZJj (OpD.t rfl) (OpD.t rfl) isX hok1 hMo hMk (fun _ _=>rfl))|fail);all_goals infer_instance));dsimp only [ZA,z0,z1])|refine WC.ret ?_));all_goals (first|((repeat clear hK);(repeat clear Kx))))
 all_goals try (exfalso;first|contradiction|omega)
 (refine ⟨trivial,_,rfl,?_⟩;exact fD)
end
section
open Go.RowKit
def ZND (n:Nat):Nat:=[1,1,3,13,75,541].getD n 0
theorem ZTm:∀ n:Fin 6,(ZCD (2 ^ n.val-1)).length=ZND n.val:=by decide +kernel
theorem ZSd:∀ n:Fin 6,ZND n.val≤541:=by decide
abbrev ZMs:Value:=.agg #[.int .i64 1,.int .i64 1,.int .i64 3,.int .i64 13,.int .i64 75,.int .i64 541]
theorem ZRK:∀ w:World,(Instr.index 128 ZMs (.int .i64 0)).run Tryz.prog w = .ok (.int .i64 1) w:=fun _=>by kernel_rfl
theorem ZRL:∀ w:World,(Instr.index 128 ZMs (.int .i64 1)).run Tryz.prog w = .ok (.int .i64 1) w:=fun _=>by kernel_rfl
theorem ZRM:∀ w:World,(Instr.index 128 ZMs (.int .i64 2)).run Tryz.prog w = .ok (.int .i64 3) w:=fun _=>by kernel_rfl
theorem ZRN:∀ w:World,(Instr.index 128 ZMs (.int .i64 3)).run Tryz.prog w = .ok (.int .i64 13) w:=fun _=>by kernel_rfl
theorem ZRO:∀ w:World,(Instr.index 128 ZMs (.int .i64 4)).run Tryz.prog w = .ok (.int .i64 75) w:=fun _=>by kernel_rfl
theorem ZRP:∀ w:World,(Instr.index 128 ZMs (.int .i64 5)).run Tryz.prog w = .ok (.int .i64 541) w:=fun _=>by kernel_rfl
theorem ZTn:∀ (k:Nat),k<6->∀ w:World,(Instr.index 128 ZMs (.int .i64 (k:Int))).run Tryz.prog w = .ok (.int .i64 ((ZND k:Nat):Int)) w
 | 0,_=>ZRK
 | 1,_=>ZRL
 | 2,_=>ZRM
 | 3,_=>ZRN
 | 4,_=>ZRO
 | 5,_=>ZRP
 | k+6,h=>absurd h (by omega)
section
variable {ops:Array Oper} {hp:List HObj} {fr:List Dat} {dst:Option Tmp} {ty:TypeId} {ps:String} {af:Array Edge} {g:Option (Nat × Bool)} {x y:Operand}
theorem ZS5:SY Tryz.prog ops hp ⟨dst,.build 128 #[(0,.const (.int .i64 1)),(1,.const (.int .i64 1)),(2,.const (.int .i64 3)),(3,.const (.int .i64 13)),(4,.const (.int .i64 75)),(5,.const (.int .i64 541))],ty,ps,af,g⟩ fr (dX ZMs):=SY.val fun {I w a} ho=>by
 have hm:∀ w,(Instr.build 128 #[(0,.int .i64 1),(1,.int .i64 1),(2,.int .i64 3),(3,.int .i64 13),(4,.int .i64 75),(5,.int .i64 541)]).run Tryz.prog w = .ok ZMs w:=by intro w;go_simp
 refine ⟨ZMs,?_,rfl⟩
 unfold execOp
 simp only [List.map_toArray,List.map_cons,List.map_nil,Act.eval,Sem.run_bind,hm,Result.andThen_ok,Sem.run_pure]
theorem ZS6 {k:Nat} (hk:k<6) (hx:OpD fr x (dX ZMs)) (hy:OpD fr y (dI (k:Int))):SY Tryz.prog ops hp ⟨dst,.index 128 x y,ty,ps,af,g⟩ fr (dI ((ZND k:Nat):Int)):=SY.val fun {I w a} ho=>by
 have h1:a.eval x=ZMs:=hx.get (by simp [Op.operands]) ho
 have h2:a.eval y = .int .i64 (k:Int):=hy.get (by simp [Op.operands]) ho
 have hm:∀ w,(Instr.index 128 ZMs (.int .i64 (k:Int))).run Tryz.prog w = .ok (.int .i64 ((ZND k:Nat):Int)) w:=ZTn k hk
 refine ⟨.int .i64 ((ZND k:Nat):Int),?_,rfl⟩
 unfold execOp
 simp only [h1,h2,Sem.run_bind,hm,Result.andThen_ok,Sem.run_pure]
end

theorem ZRQ (k:Nat) (hk:k<6):Fn Tryz.prog 52 [dI (k:Int)] (dI ((ZND k:Nat):Int)):=by
 (refine ZH Tryz.func52 rfl rfl ?_;simp only [Tryz.ntmps52,List.length_cons,List.length_nil,Nat.reduceAdd,Nat.reduceSub,List.replicate_succ,List.replicate_zero,List.cons_append,List.nil_append])
 ((repeat' (first|(apply WL.opN;exact yF;dsimp only [ZA,z0,z1])|refine WL.nil ?_|refine ZC fun Kx hK=>?_|(refine hK _ _ ?_;clear hK)|refine WC.region ?_|(apply WL.opN;(focus ((first|(exact ZS5)|(exact ZS6 hk (OpD.t rfl) (OpD.t rfl))|fail);all_goals infer_instance));dsimp only [ZA,z0,z1])|refine WC.ret ?_));all_goals (first|((repeat clear hK);(repeat clear Kx))))
 (refine ⟨trivial,_,rfl,?_⟩;exact fD)
def ZFi (l:Cx):Nat:=(l.map fun s=>ZND s.length).sum
theorem ZPr {l:Cx} {i:Nat} (h:i<l.length):ZFi (l.take (i+1))=ZFi (l.take i)+ZND l[i].length:=by
 unfold ZFi;rw [ZZ h,List.map_append,List.sum_append];simp
def ZGs (l:Cx):Int:=if ZAr l≠0 then ZAr l else if l.all ZAi=false then 3 else if l.any (fun s=>decide (5<s.length))=true then 5 else if 4096<ZFi l then 5 else 0
theorem ZUJ {l:Cx} (h5:∀ s∈l,s.length≤5):ZFi l≤541*l.length:=by
 induction l with
 | nil=>simp [ZFi]
 | cons s l ih =>
  have h1:=ih fun t ht=>h5 t (by simp [ht])
  have h2:=ZSd ⟨s.length,by have:=h5 s (by simp);omega⟩
  unfold ZFi at h1 ⊢
  rw [List.map_cons,List.sum_cons,List.length_cons]
  simp only at h2
  omega
set_option maxHeartbeats 8000000 in
theorem ZFS (l:Cx):Fn Tryz.prog 25 [dS Cpx l] (dI (ZGs l)):=by
 have c1:=ZBe l
 by_cases h0:ZAr l=0
 ·have hG:=Z4.1 h0
  have hl:=hG.1
  have hg:=hG.2.2.1
  rw [h0] at c1
  (refine ZH Tryz.func25 rfl rfl ?_;simp only [Tryz.ntmps25,List.length_cons,List.length_nil,Nat.reduceAdd,Nat.reduceSub,List.replicate_succ,List.replicate_zero,List.cons_append,List.nil_append])
  (repeat' (first|(apply WL.opN;exact yF;dsimp only [ZA,z0,z1])|refine WL.nil ?_|refine ZC fun Kx hK=>?_|(refine hK _ _ ?_;clear hK)|refine WC.region ?_|(apply WL.opN;(focus ((first|(apply SY.call (c1) Tryz.call32;(exact aD))|((first|apply SY.move|apply SY.assign|apply SY.lss|apply SY.gtr|apply SY.neq|apply SY.not) <;> (exact oD))|(apply SY.len;(exact oD);(exact nD);(exact uD))|(apply Zb ZAA;exact OpD.t rfl)|(apply SY.box;(exact oD);(exact hD))|fail);all_goals infer_instance));dsimp only [ZA,z0,z1])|(apply WC.condN;(exact oD);all_goals (intro h;try exact xD))|refine WC.skip ?_|refine WC.block ?_))
  all_goals try (exfalso;first|contradiction|omega)
  (refine WC.loopU (X:=Nat) (fun k=>[(19,dI (k:Int)),(2,dA),(5,dA),(6,dA),(7,dA),(20,dA),(21,dA),(22,dA),(23,dA),(24,dA),(25,dA),(26,dA),(27,dA),(28,dA),(29,dA),(30,dA)]) (fun k=>[]) (fun k=>l.length-k) (fun k=>k≤l.length/\(l.take k).all ZAi=true) 0 ?start ?frame0 ?objs0 ?round)
  case start=>exact ⟨Nat.zero_le _,rfl⟩
  case frame0=>((try dsimp only [Za,z0,z1]);repeat (first|exact LeF.nil|refine ZF (k:=?_)))
  case objs0=>rfl
  case round =>
   rintro k ⟨k1,k2⟩
   dsimp only [Za,z0,z1]
   by_cases hk:k<l.length
   ·have hgk:=hg _ (List.getElem_mem hk)
    have cC:=ZOH l[k]
    rw [show ZEU l[k]=(ZAi l[k],0) by unfold ZEU;rw [if_neg (by rw [hgk];decide)]] at cC
    have hsn:(l.take (k+1)).all ZAi=ZAi l[k]:=by rw [ZZ hk,List.all_append,k2];simp
    cases hd:ZAi l[k] with
    | true =>
     rw [hd] at cC hsn
     ((repeat' (first|(apply WL.opN;exact yF;dsimp only [ZA,z0,z1])|refine WL.nil ?_|refine ZC fun Kx hK=>?_|(refine hK _ _ ?_;clear hK)|refine WC.region ?_|(apply WL.opN;(focus ((first|(apply SY.call (cC) Tryz.call51;(exact aD))|(exact ZBs (OpD.t rfl))|((first|apply SY.move|apply SY.assign|apply SY.lss|apply SY.gtr|apply SY.neq|apply SY.not) <;> (exact oD))|((first|apply SY.add) <;> first|exact oD|omega)|(apply SY.ix;(exact eD);(exact oD);(exact oD);exact kD)|(apply SY.extract;(exact oD);rfl)|fail);all_goals infer_instance));dsimp only [ZA,z0,z1])|(apply ZK;(exact oD);(with_reducible rfl))|(apply ZE;(exact oD);all_goals (intro h;try exact xD))|refine WC.skip ?_|refine WC.block ?_|refine ThenD.n ?_));all_goals (first|((repeat clear hK);(repeat clear Kx))))
     all_goals try (exfalso;first|contradiction|omega)
     (refine ⟨k+1,?_,by first|omega|(simp only;omega),rfl,?_⟩;rotate_left;((try dsimp only [Za,z0,z1]);repeat (first|exact LeF.nil|refine ZF (k:=?_)));(try dsimp only))
     exact ⟨by omega,hsn⟩
    | false =>
     rw [hd] at cC
     have he:ZGs l=3:=by
      unfold ZGs
      rw [if_neg (by rw [h0];decide),if_pos]
      exact List.all_eq_false.2 ⟨_,List.getElem_mem hk,by rw [hd];decide⟩
     rw [he]
     ((repeat' (first|(apply WL.opN;exact yF;dsimp only [ZA,z0,z1])|refine WL.nil ?_|refine ZC fun Kx hK=>?_|(refine hK _ _ ?_;clear hK)|refine WC.region ?_|(apply WL.opN;(focus ((first|(apply SY.call (cC) Tryz.call51;(exact aD))|((first|apply SY.move|apply SY.assign|apply SY.lss|apply SY.gtr|apply SY.neq|apply SY.not) <;> (exact oD))|(apply SY.ix;(exact eD);(exact oD);(exact oD);exact kD)|(apply SY.extract;(exact oD);rfl)|fail);all_goals infer_instance));dsimp only [ZA,z0,z1])|(apply ZE;(exact oD);all_goals (intro h;try exact xD))|(apply WC.condNB;(exact oD);all_goals (intro h;try exact xD))|refine WC.skip ?_|refine WC.ret ?_|refine WC.block ?_|refine ThenD.r ?_|refine InBlockD.r ?_));all_goals (first|((repeat clear hK);(repeat clear Kx))))
     all_goals try (exfalso;first|contradiction|omega)
     all_goals (refine ⟨trivial,_,rfl,?_⟩;exact fD)
   ·have hall:l.all ZAi=true:=by rw [List.take_of_length_le (by omega)] at k2;exact k2
    (repeat' (first|(apply WL.opN;exact yF;dsimp only [ZA,z0,z1])|refine WL.nil ?_|refine ZC fun Kx hK=>?_|(refine hK _ _ ?_;clear hK)|(refine Kont.skip ?_;clear hK)|refine WC.region ?_|(apply WL.opN;(focus ((first|((first|apply SY.move|apply SY.assign|apply SY.lss|apply SY.gtr|apply SY.neq|apply SY.not) <;> (exact oD))|(apply SY.len;(exact oD);(exact nD);(exact uD))|(apply Zb ZAA;exact OpD.t rfl)|fail);all_goals infer_instance));dsimp only [ZA,z0,z1])|(apply ZE;(exact oD);all_goals (intro h;try exact xD))|refine WC.exit ?_|refine WC.block ?_))
    all_goals try (exfalso;first|contradiction|omega)
    (refine WC.loopU (X:=Nat) (fun j=>[(34,dI (j:Int)),(8,dI ((ZFi (l.take j):Nat):Int)),(2,dA),(10,dA),(35,dA),(36,dA),(37,dA),(38,dA),(39,dA),(40,dA),(41,dA),(42,dA),(43,dA),(44,dA),(45,dA),(46,dA)]) (fun j=>[]) (fun j=>l.length-j) (fun j=>j≤l.length/\∀ s∈l.take j,s.length≤5) 0 ?start ?frame0 ?objs0 ?round)
    case start=>exact ⟨Nat.zero_le _,by simp⟩
    case frame0=>((try dsimp only [Za,z0,z1]);repeat (first|exact LeF.nil|refine ZF (k:=?_)))
    case objs0=>rfl
    case round =>
     rintro j ⟨j1,j2⟩
     dsimp only [Za,z0,z1]
     have hsl:=ZUJ j2
     rw [List.length_take] at hsl
     by_cases hj:j<l.length
     ·by_cases h5:5<l[j].length
      ·have he:ZGs l=5:=by
        unfold ZGs
        rw [if_neg (by rw [h0];decide),if_neg (by rw [hall];decide),if_pos]
        exact List.any_eq_true.2 ⟨_,List.getElem_mem hj,decide_eq_true h5⟩
       rw [he]
       ((repeat' (first|(apply WL.opN;exact yF;dsimp only [ZA,z0,z1])|refine WL.nil ?_|refine ZC fun Kx hK=>?_|(refine hK _ _ ?_;clear hK)|refine WC.region ?_|(apply WL.opN;(focus ((first|((first|apply SY.move|apply SY.assign|apply SY.lss|apply SY.gtr|apply SY.neq|apply SY.not) <;> (exact oD))|(apply SY.len;(exact oD);(exact nD);(exact uD))|(apply SY.ix;(exact eD);(exact oD);(exact oD);exact kD)|fail);all_goals infer_instance));dsimp only [ZA,z0,z1])|(apply ZE;(exact oD);all_goals (intro h;try exact xD))|refine WC.skip ?_|refine WC.ret ?_|refine WC.block ?_|refine ThenD.r ?_|refine InBlockD.r ?_));all_goals (first|((repeat clear hK);(repeat clear Kx))))
       all_goals try (exfalso;first|contradiction|omega)
       all_goals (refine ⟨trivial,_,rfl,?_⟩;exact fD)
      ·have cf:=ZRQ l[j].length (by omega)
       have hsn:=ZPr hj
       have hf5:=ZSd ⟨l[j].length,by omega⟩
       simp only at hf5
       have hsn2:((ZFi (l.take j):Nat):Int)+((ZND l[j].length:Nat):Int)=((ZFi (l.take (j+1)):Nat):Int):=by rw [hsn];omega
       clear hsn
       ((repeat' (first|(apply WL.opN;exact yF;dsimp only [ZA,z0,z1])|refine WL.nil ?_|refine ZC fun Kx hK=>?_|(refine hK _ _ ?_;clear hK)|refine WC.region ?_|(apply WL.opN;(focus ((first|(apply SY.call (cf) Tryz.call52;(exact aD))|((first|apply SY.move|apply SY.assign|apply SY.lss|apply SY.gtr|apply SY.neq|apply SY.not) <;> (exact oD))|((first|apply SY.add) <;> first|exact oD|omega)|(apply SY.len;(exact oD);(exact nD);(exact uD))|(apply SY.ix;(exact eD);(exact oD);(exact oD);exact kD)|fail);all_goals infer_instance));dsimp only [ZA,z0,z1])|(apply ZE;(exact oD);all_goals (intro h;try exact xD))|refine WC.skip ?_|refine WC.block ?_|refine ThenD.n ?_));all_goals (first|((repeat clear hK);(repeat clear Kx))))
       all_goals try (exfalso;first|contradiction|omega)
       rw [hsn2]
       (refine ⟨j+1,?_,by first|omega|(simp only;omega),rfl,?_⟩;rotate_left;((try dsimp only [Za,z0,z1]);repeat (first|exact LeF.nil|refine ZF (k:=?_)));(try dsimp only))
       refine ⟨by omega,fun s hs=>?_⟩
       rw [ZZ hj] at hs
       rcases List.mem_append.1 hs with q|q
       ·exact j2 s q
       ·rw [List.mem_singleton.1 q];omega
     ·rw [List.take_of_length_le (by omega)] at j2
      rw [List.take_of_length_le (show l.length≤j by omega)]
      have hno:l.any (fun s=>decide (5<s.length))=false:=List.any_eq_false.2 fun s hs=>by have:=j2 s hs;simp;omega
      have he:ZGs l=if 4096<ZFi l then 5 else 0:=by
       unfold ZGs
       rw [if_neg (by rw [h0];decide),if_neg (by rw [hall];decide),if_neg (by rw [hno];decide)]
      by_cases hs:4096<ZFi l
      ·rw [if_pos hs] at he
       ((repeat' (first|(apply WL.opN;exact yF;dsimp only [ZA,z0,z1])|refine WL.nil ?_|refine ZC fun Kx hK=>?_|(refine hK _ _ ?_;clear hK)|(refine Kont.skip ?_;clear hK)|refine WC.region ?_|(apply WL.opN;(focus ((first|((first|apply SY.move|apply SY.assign|apply SY.lss|apply SY.gtr|apply SY.neq|apply SY.not) <;> (exact oD))|fail);all_goals infer_instance));dsimp only [ZA,z0,z1])|(apply ZE;(exact oD);all_goals (intro h;try exact xD))|refine WC.ret ?_|refine WC.exit ?_|refine ThenD.r ?_));all_goals (first|((repeat clear hK);(repeat clear Kx))))
       all_goals try (exfalso;first|contradiction|omega)
       all_goals (refine ⟨trivial,_,rfl,?_⟩;refine FinD.i ?_)
       all_goals rw [he]
      ·rw [if_neg hs] at he
       ((repeat' (first|(apply WL.opN;exact yF;dsimp only [ZA,z0,z1])|refine WL.nil ?_|refine ZC fun Kx hK=>?_|(refine hK _ _ ?_;clear hK)|(refine Kont.skip ?_;clear hK)|refine WC.region ?_|(apply WL.opN;(focus ((first|((first|apply SY.move|apply SY.assign|apply SY.lss|apply SY.gtr|apply SY.neq|apply SY.not) <;> (exact oD))|fail);all_goals infer_instance));dsimp only [ZA,z0,z1])|(apply ZE;(exact oD);all_goals (intro h;try exact xD))|refine WC.skip ?_|refine WC.ret ?_|refine WC.exit ?_));all_goals (first|((repeat clear hK);(repeat clear Kx))))
       all_goals try (exfalso;first|contradiction|omega)
       all_goals (refine ⟨trivial,_,rfl,?_⟩;refine FinD.i ?_)
       all_goals rw [he]
 ·have he:ZGs l=ZAr l:=by unfold ZGs;rw [if_pos h0]
  rw [he]
  (refine ZH Tryz.func25 rfl rfl ?_;simp only [Tryz.ntmps25,List.length_cons,List.length_nil,Nat.reduceAdd,Nat.reduceSub,List.replicate_succ,List.replicate_zero,List.cons_append,List.nil_append])
  ((repeat' (first|(apply WL.opN;exact yF;dsimp only [ZA,z0,z1])|refine WL.nil ?_|refine ZC fun Kx hK=>?_|(refine hK _ _ ?_;clear hK)|refine WC.region ?_|(apply WL.opN;(focus ((first|(apply SY.call (c1) Tryz.call32;(exact aD))|((first|apply SY.move|apply SY.assign|apply SY.lss|apply SY.gtr|apply SY.neq|apply SY.not) <;> (exact oD))|(apply SY.box;(exact oD);(exact hD))|fail);all_goals infer_instance));dsimp only [ZA,z0,z1])|(apply WC.condN;(exact oD);all_goals (intro h;try exact xD))|refine WC.ret ?_|refine ThenD.r ?_));all_goals (first|((repeat clear hK);(repeat clear Kx))))
  all_goals try (exfalso;first|contradiction|omega)
  all_goals (refine ⟨trivial,_,rfl,?_⟩;exact fD)
end
section
open Go.RowKit

def ZAN:Nat->Cx->List Vx->Int
 | _,[],_=>-1
 | k,x::l,s=>if x=s then (k:Int) else ZAN (k+1) l s
def ZNj (o:Cx) (s:List Vx):Cx:=if ZAN 0 o s<0 then o++[s] else o
theorem ZQf (o:Cx) (s:List Vx):(ZNj o s).length≤o.length+1:=by
 unfold ZNj;split <;> simp
theorem ZJV:∀ (l o:Cx),(l.foldl ZNj o).length≤o.length+l.length
 | [],o=>by simp
 | s::l,o=>by
  have h1:=ZJV l (ZNj o s)
  have h2:=ZQf o s
  rw [List.foldl_cons,List.length_cons];omega
def ZAL (l:Cx):Cx:=(ZFW l).foldl ZNj []
end
end Go.Proofs.YtekiljakcngcoaaGreatDoor
