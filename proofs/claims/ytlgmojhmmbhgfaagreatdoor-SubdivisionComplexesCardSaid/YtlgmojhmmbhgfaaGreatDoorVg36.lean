/- Part 36: walks by contracts, and plain laws. -/
import Derived.Test.YtlgmojhmmbhgfaaGreatDoorVg35
set_option linter.unusedVariables false
set_option linter.unusedSimpArgs false
set_option linter.unusedSectionVars false
set_option maxRecDepth 100000
set_option maxHeartbeats 4000000
namespace Go.Proofs.YtlgmojhmmbhgfaaGreatDoor
section
open Go.RowKit

variable {S:Prop}
theorem ZID {x:Vx}:(dS (RLS S RV) x).Shape 2 true:=fun I w v h=>ZAV I w v h.1
theorem ZJN {s:List Vx} (hs:ZAJ s=0):∀ v∈s,okL v:=fun v hv=>by
 have:=(ZO.1 hs).2.2.1 v hv
 unfold ZEt at this
 simp only [Bool.and_eq_true,decide_eq_true_eq] at this
 unfold okL
 omega
theorem ZHj {s:List Vx} (hs:ZAJ s=0) {k:Nat} {x:List Vx} (hx:x∈Zg (k+1) s):x.length≤1000/\(∀ v∈x,okL v)/\okS (txS x):=by
 obtain ⟨f1,f2,_⟩:=ZGC hs (by omega) hx
 have h8:=(ZEQ f1).2
 have hv:=ZJN f1
 refine ⟨by omega,hv,?_⟩
 have:=ZEo hv
 unfold okS
 omega
theorem ZHh {l:Cx} (hg:∀ s∈l,ZAJ s=0):∀ x∈ZDx l,okS (txS x):=fun x hx=>by
 obtain ⟨s,hs,hx⟩:=List.mem_flatMap.1 hx
 obtain ⟨k,_,hx⟩:=List.mem_flatMap.1 hx
 exact (ZHj (hg s hs) hx).2.2
set_option maxHeartbeats 8000000 in
theorem ZLE (l:Cx) (hl:l.length≤100000) (hg:∀ s∈l,ZAJ s=0) (hS:S->ZRW l):Fn Tryz.prog 24 [dS (ZTI S) l] (dS (ZKc kvS RI) (ZBT l)):=by
 (refine ZG Tryz.func24 rfl rfl ?_;simp only [Tryz.ntmps24,List.length_cons,List.length_nil,Nat.reduceAdd,Nat.reduceSub,List.replicate_succ,List.replicate_zero,List.cons_append,List.nil_append])
 (repeat' (first|(apply WL.opN;exact yF;dsimp only [ZB,z0,z1])|refine WL.nil ?_|refine ZA fun Kx hK=>?_|(refine hK _ _ ?_;clear hK)|refine WC.region ?_ |  (refine WL.makeMap kvS vvI fun b=>?_;dsimp only [ZB,z0,z1])|(apply WL.opN;(focus ((first|(apply SY.len;(exact oD);(exact nD);(exact uD))|(apply Zs ZCt;exact OpD.t rfl)|(apply SY.box;(exact oD);(exact hD))|fail);all_goals infer_instance));dsimp only [ZB,z0,z1])|refine WC.block ?_))
 have hn8:∀ s∈l,s.length≤8:=fun s hs=>(ZEQ (hg s hs)).2
 (refine WC.loopU (X:=Nat) (fun i=>[(17,dI (i:Int)),(5,dA),(6,dA),(7,dA),(8,dA),(10,dA),(11,dA),(12,dA),(18,dA),(19,dA),(20,dA),(21,dA),(22,dA),(23,dA),(24,dA),(25,dA),(26,dA),(27,dA),(28,dA),(29,dA),(30,dA),(31,dA),(32,dA),(33,dA),(34,dA),(35,dA),(36,dA),(37,dA),(38,dA),(39,dA),(40,dA),(41,dA),(42,dA),(43,dA),(44,dA),(45,dA),(46,dA),(47,dA),(48,dA),(49,dA),(50,dA),(51,dA),(52,dA),(53,dA),(54,dA),(55,dA)]) (fun i=>[hM b kvS vvI ((ZDx (l.take i)).foldl ZFR [])]) (fun i=>l.length-i) (fun i=>i≤l.length) 0 ?start ?frame0 ?objs0 ?round)
 case start=>exact Nat.zero_le _
 case frame0=>((try dsimp only [ZK,z0,z1]);repeat (first|exact LeF.nil|refine ZD (k:=?_)))
 case objs0=>rfl
 case round =>
  rintro i h1
  dsimp only [ZK,z0,z1]
  by_cases hi:i<l.length
  ·have hgi:=hg _ (List.getElem_mem hi)
   obtain ⟨p1,p2⟩:=ZEQ hgi
   have e:=ZIx hi
   have hne:l[i]≠[]:=fun q=>by rw [q] at p1;simp at p1
   have hpl:=ZLC (l:=l.take i) fun s hs=>hn8 s (List.mem_of_mem_take hs)
   rw [List.length_take] at hpl
   (repeat' (first|(apply WL.opN;exact yF;dsimp only [ZB,z0,z1])|refine WL.nil ?_|refine ZA fun Kx hK=>?_|(refine hK _ _ ?_;clear hK)|refine WC.region ?_|(apply WL.opN;(focus ((first|((first|apply SY.move|apply SY.assign|apply SY.lss|apply SY.not) <;> (exact oD))|(apply SY.len;(exact oD);(exact nD);(exact uD))|(apply ZAw;(exact eD);(exact oD);(exact oD);exact kD)|fail);all_goals infer_instance));dsimp only [ZB,z0,z1])|(apply ZC;(exact oD);all_goals (intro h;try exact xD))|refine WC.skip ?_|refine WC.block ?_))
   (refine WC.loopU (X:=Nat) (fun k=>[(23,dI (k:Int)),(6,dA),(7,dA),(8,dA),(10,dA),(11,dA),(12,dA),(24,dA),(25,dA),(26,dA),(27,dA),(28,dA),(29,dA),(30,dA),(31,dA),(32,dA),(33,dA),(34,dA),(35,dA),(36,dA),(37,dA),(38,dA),(39,dA),(40,dA),(41,dA),(42,dA),(43,dA),(44,dA),(45,dA),(46,dA),(47,dA),(48,dA),(49,dA),(50,dA),(51,dA),(52,dA),(53,dA),(54,dA)]) (fun k=>[hM b kvS vvI ((ZDx (l.take i)++(List.range k).flatMap (fun k=>Zg (k+1) l[i])).foldl ZFR [])]) (fun k=>l[i].length-k) (fun k=>k≤l[i].length) 0 ?start ?frame0 ?objs0 ?round)
   case start=>exact Nat.zero_le _
   case frame0=>((try dsimp only [ZK,z0,z1]);repeat (first|exact LeF.nil|refine ZD (k:=?_)))
   case objs0=>simp
   case round =>
    rintro k k1
    dsimp only [ZK,z0,z1]
    by_cases hk:k<l[i].length
    ·have hF:Fn Tryz.prog 57 [dS ZE l[i],dI ((k:Int)+1)] (dT [dS Zc (Zg (k+1) l[i]),dI 0]):=by
      have:=ZQQ l[i] ((k+1:Nat):Int)
      rwa [ZKB hgi (by omega) (by omega)] at this
     have hTl:=ZGZ p2 (k+1)
     have hTc:∀ t∈Zg (k+1) l[i],t.length≤1000/\(∀ v∈t,okL v)/\okS (txS t):=fun t ht=>ZHj hgi ht
     have hTs:S->∀ t∈Zg (k+1) l[i],∀ v∈t,v.1<100/\v.2<100:=fun q t ht v hv=>⟨(hS q _ (List.getElem_mem hi) v ((ZGC hgi (by omega) ht).2.1.subset hv)).1.2,(hS q _ (List.getElem_mem hi) v ((ZGC hgi (by omega) ht).2.1.subset hv)).2.2⟩
     have hPKo:∀ x∈(List.range k).flatMap (fun k=>Zg (k+1) l[i]),okS (txS x):=fun x hx=>by
      obtain ⟨k',_,hx⟩:=List.mem_flatMap.1 hx
      exact (ZHj hgi hx).2.2
     have hPCo:∀ x∈ZDx (l.take i),okS (txS x):=ZHh fun s hs=>hg s (List.mem_of_mem_take hs)
     have hpk:=ZCB (fun k=>Zg (k+1) l[i]) 256 (List.range k) fun k _=>ZGZ p2 _
     rw [List.length_range] at hpk
     have ek:(List.range (k+1)).flatMap (fun k=>Zg (k+1) l[i])=(List.range k).flatMap (fun k=>Zg (k+1) l[i])++Zg (k+1) l[i]:=by
      rw [List.range_succ,List.flatMap_append];simp
     generalize (List.range k).flatMap (fun k=>Zg (k+1) l[i])=PK at *
     generalize ZDx (l.take i)=PC at *
     generalize Zg (k+1) l[i]=T at *
     (repeat' (first|(apply WL.opN;exact yF;dsimp only [ZB,z0,z1])|refine WL.nil ?_|refine ZA fun Kx hK=>?_|(refine hK _ _ ?_;clear hK)|refine WC.region ?_|(apply WL.opN;(focus ((first|(apply SY.call hF Tryz.call57;exact ArgsD.cons (OpD.tle rfl ZSo) (ArgsD.cons (OpD.t rfl) ArgsD.nil))|((first|apply SY.move|apply SY.assign|apply SY.lss|apply SY.not) <;> (exact oD))|((first|apply SY.add) <;> first|exact oD|omega)|(apply SY.len;(exact oD);(exact nD);(exact uD))|(apply SY.extract;(exact oD);rfl)|fail);all_goals infer_instance));dsimp only [ZB,z0,z1])|(apply ZC;(exact oD);all_goals (intro h;try exact xD))|refine WC.skip ?_|refine WC.block ?_))
     all_goals first|(exfalso;omega)|skip
     (refine WC.loopU (X:=Nat) (fun j=>[(35,dI (j:Int)),(10,dA),(11,dA),(12,dA),(36,dA),(37,dA),(38,dA),(39,dA),(40,dA),(41,dA),(42,dA),(43,dA),(44,dA),(45,dA),(46,dA),(47,dA),(48,dA),(49,dA),(50,dA),(51,dA),(52,dA),(53,dA)]) (fun j=>[hM b kvS vvI ((PC++PK++T.take j).foldl ZFR [])]) (fun j=>T.length-j) (fun j=>j≤T.length) 0 ?start ?frame0 ?objs0 ?round)
     case start=>exact Nat.zero_le _
     case frame0=>((try dsimp only [ZK,z0,z1]);repeat (first|exact LeF.nil|refine ZD (k:=?_)))
     case objs0=>simp
     case round =>
      rintro j q1
      dsimp only [ZK,z0,z1]
      by_cases hj:j<T.length
      ·obtain ⟨t1,t2,t3⟩:=hTc _ (List.getElem_mem hj)
       have cT:=ZKT T[j] t1 t2 fun q=>hTs q _ (List.getElem_mem hj)
       have hn:=ZEg (PC++PK++T.take j) (M:=[]) List.Pairwise.nil
       have hok:∀ p∈(PC++PK++T.take j).foldl ZFR [],okS p.1:=ZH0 _ (fun x hx=>by
        rcases List.mem_append.1 hx with hx|hx
        ·rcases List.mem_append.1 hx with hx|hx
         ·exact hPCo x hx
         ·exact hPKo x hx
        ·exact (hTc x (List.mem_of_mem_take hx)).2.2) (by simp)
       have ej:(PC++PK++T.take (j+1)).foldl ZFR []=ZFR ((PC++PK++T.take j).foldl ZFR []) T[j]:=by
        rw [List.take_succ_eq_append_getElem hj,<- List.append_assoc,List.foldl_append];rfl
       have hML:=ZLa (PC++PK++T.take j) []
       rw [List.length_append,List.length_append,List.length_take,List.length_nil] at hML
       generalize (PC++PK++T.take j).foldl ZFR []=M at *
       cases hs:(lookM M (txS T[j])).isSome with
       | true =>
        rw [show ZFR M T[j]=M from if_pos hs] at ej
        ((repeat' (first|(apply WL.opN;exact yF;dsimp only [ZB,z0,z1])|refine WL.nil ?_|refine ZA fun Kx hK=>?_|(refine hK _ _ ?_;clear hK)|refine WC.region ?_ |  (refine WL.gain 41 5 hne rfl rfl ?_;dsimp only [z0,z1]) |  (refine WL.gain 49 5 hne rfl rfl ?_;dsimp only [z0,z1])|(apply WL.opN;(focus ((first|(apply SY.call (cT) Tryz.call27;(exact aD))|(refine ZIV (v:=txS T[j]) ZDk ZJG (OpD.t rfl) (.head _) (OpD.t rfl) isX t3 hok hn)|((first|apply SY.move|apply SY.assign|apply SY.lss|apply SY.not) <;> (exact oD))|((first|apply SY.add) <;> first|exact oD|omega)|(apply ZAw;(exact eD);(exact oD);(exact oD);exact kD)|(apply SY.extract;(exact oD);rfl)|fail);all_goals infer_instance));dsimp only [ZB,z0,z1])|(apply ZC;(exact oD);all_goals (intro h;try exact xD))|(apply Z7;(exact oD);all_goals (intro h;try exact xD))|refine WC.skip ?_|refine WC.block ?_|refine ThenD.n ?_));all_goals (first|refine WL.id ?_|((repeat clear hK);(repeat clear Kx))))
        all_goals first|(exfalso;omega)|(exfalso;rw [hs] at h;cases h;done)|skip
        (refine ⟨j+1 , ?_,by first|omega|(simp only;omega),by ((try simp only);  rw [ej]),?_⟩;rotate_left;((try dsimp only [ZK,z0,z1]);repeat (first|exact LeF.nil|refine ZD (k:=?_)));(try dsimp only))
        omega
       | false =>
        rw [show ZFR M T[j]=ZBy M (txS T[j]) (M.length:Int) from if_neg (by rw [hs];decide)] at ej
        ((repeat' (first|(apply WL.opN;exact yF;dsimp only [ZB,z0,z1])|refine WL.nil ?_|refine ZA fun Kx hK=>?_|(refine hK _ _ ?_;clear hK)|refine WC.region ?_ |  (refine WL.gain 41 5 hne rfl rfl ?_;dsimp only [z0,z1]) |  (refine WL.gain 49 5 hne rfl rfl ?_;dsimp only [z0,z1]) |  (refine ZM0 (v:=txS T[j]) (u:=(M.length:Int)) ZDk ZJG (OpD.t rfl) (OpD.t rfl) isX (OpD.t rfl) ⟨fun _ _ _ h=>h⟩ t3 hok hn ?_;dsimp only [ZB,z0,z1])|(apply WL.opN;(focus ((first|(apply SY.call (cT) Tryz.call27;(exact aD))|(refine ZIV (v:=txS T[j]) ZDk ZJG (OpD.t rfl) (.head _) (OpD.t rfl) isX t3 hok hn)|(refine ZSA ZDk (OpD.t rfl) (.head _))|((first|apply SY.move|apply SY.assign|apply SY.lss|apply SY.not) <;> (exact oD))|((first|apply SY.add) <;> first|exact oD|omega)|(apply ZAw;(exact eD);(exact oD);(exact oD);exact kD)|(apply SY.extract;(exact oD);rfl)|fail);all_goals infer_instance));dsimp only [ZB,z0,z1])|(apply ZC;(exact oD);all_goals (intro h;try exact xD))|(apply Z7;(exact oD);all_goals (intro h;try exact xD))|refine WC.skip ?_|refine WC.block ?_|refine ThenD.n ?_));all_goals (first|((repeat clear hK);(repeat clear Kx))))
        all_goals first|(exfalso;omega)|(exfalso;rw [hs] at h;cases h;done)|skip
        (refine ⟨j+1 , ?_,by first|omega|(simp only;omega),by ((try simp only);  rw [ej]),?_⟩;rotate_left;((try dsimp only [ZK,z0,z1]);repeat (first|exact LeF.nil|refine ZD (k:=?_)));(try dsimp only))
        omega
      ·rw [List.take_of_length_le (by omega)]
       ((repeat' (first|(apply WL.opN;exact yF;dsimp only [ZB,z0,z1])|refine WL.nil ?_|refine ZA fun Kx hK=>?_|(refine hK _ _ ?_;clear hK)|(refine Kont.skip ?_;clear hK)|refine WC.region ?_|(apply WL.opN;(focus ((first|((first|apply SY.move|apply SY.assign|apply SY.lss|apply SY.not) <;> (exact oD))|((first|apply SY.add) <;> first|exact oD|omega)|fail);all_goals infer_instance));dsimp only [ZB,z0,z1])|(apply ZC;(exact oD);all_goals (intro h;try exact xD))|refine WC.exit ?_|refine ThenD.n ?_));all_goals (first|((repeat clear hK);(repeat clear Kx))))
       (refine ⟨k+1 , ?_,by first|omega|(simp only;omega),by ((try simp only);  rw [ek,List.append_assoc]),?_⟩;rotate_left;((try dsimp only [ZK,z0,z1]);repeat (first|exact LeF.nil|refine ZD (k:=?_)));(try dsimp only))
       omega
    ·have hke:k=l[i].length:=by omega
     subst hke
     ((repeat' (first|(apply WL.opN;exact yF;dsimp only [ZB,z0,z1])|refine WL.nil ?_|refine ZA fun Kx hK=>?_|(refine hK _ _ ?_;clear hK)|(refine Kont.skip ?_;clear hK)|refine WC.region ?_|(apply WL.opN;(focus ((first|((first|apply SY.move|apply SY.assign|apply SY.lss|apply SY.not) <;> (exact oD))|((first|apply SY.add) <;> first|exact oD|omega)|fail);all_goals infer_instance));dsimp only [ZB,z0,z1])|(apply ZC;(exact oD);all_goals (intro h;try exact xD))|refine WC.exit ?_|refine ThenD.n ?_));all_goals (first|((repeat clear hK);(repeat clear Kx))))
     all_goals first|(exfalso;omega)|skip
     (refine ⟨i+1 , ?_,by first|omega|(simp only;omega),by ((try simp only);  rw [e];rfl),?_⟩;rotate_left;((try dsimp only [ZK,z0,z1]);repeat (first|exact LeF.nil|refine ZD (k:=?_)));(try dsimp only))
     omega
  ·rw [List.take_of_length_le (by omega)]
   ((repeat' (first|(apply WL.opN;exact yF;dsimp only [ZB,z0,z1])|refine WL.nil ?_|refine ZA fun Kx hK=>?_|(refine hK _ _ ?_;clear hK)|(refine Kont.skip ?_;clear hK)|refine WC.region ?_|(apply WL.opN;(focus ((first|((first|apply SY.move|apply SY.assign|apply SY.lss|apply SY.not) <;> (exact oD))|fail);all_goals infer_instance));dsimp only [ZB,z0,z1])|(apply ZC;(exact oD);all_goals (intro h;try exact xD))|refine WC.ret ?_|refine WC.exit ?_));all_goals (first|((repeat clear hK);(repeat clear Kx))))
   refine ⟨trivial,_,rfl,?_⟩
   exact FinD.mapN (.head _)
set_option maxHeartbeats 4000000 in
theorem ZNt (s:List Vx) (m:Nat) (hs:s.length≤60) (hm:m<1048576):Fn Tryz.prog 28 [dS (ZAx S) s,dI (m:Int)] (dS (ZAx S) (atB s m)):=by
 (refine ZG Tryz.func28 rfl rfl ?_;simp only [Tryz.ntmps28,List.length_cons,List.length_nil,Nat.reduceAdd,Nat.reduceSub,List.replicate_succ,List.replicate_zero,List.cons_append,List.nil_append])
 (repeat' (first|(apply WL.opN;exact yF;dsimp only [ZB,z0,z1])|refine WL.nil ?_|refine ZA fun Kx hK=>?_|(refine hK _ _ ?_;clear hK)|refine WC.region ?_|(apply WL.opN;(focus ((first|(apply SY.len;(exact oD);(exact nD);(exact uD))|fail);all_goals infer_instance));dsimp only [ZB,z0,z1])|refine WC.block ?_))
 refine ZAl 43 2 (by decide) (RLS S RV) ?_
 (refine WC.loopU (X:=Nat × Value) (fun x=>[(5,dX x.2),(10,dI (x.1:Int)),(6,dA),(7,dA),(11,dA),(12,dA),(13,dA),(14,dA),(15,dA),(16,dA),(17,dA),(18,dA),(19,dA),(20,dA),(21,dA),(22,dA),(23,dA),(24,dA)]) (fun x=>[ZV x.2 43 2 (RLS S RV) (atB (s.take x.1) m)]) (fun x=>s.length-x.1) (fun x=>x.1≤s.length) (0,.slice none 0 0) ?start ?frame0 ?objs0 ?round)
 case start=>simp
 case frame0=>((try dsimp only [ZK,z0,z1]);repeat (first|exact LeF.nil|refine ZD (k:=?_)))
 case objs0=>rfl
 case round =>
  rintro ⟨k,u⟩ h1
  dsimp only [ZK,z0,z1]
  simp only at h1
  have h2:(atB (s.take k) m).length≤1000:=by
   have:=ZE0 (s.take k) m
   rw [List.length_take] at this
   omega
  by_cases hk:k<s.length
  ·cases hb:ZGf m k with
   | true =>
    have hcond:=ZBl.2 hb
    ((repeat' (first |  (refine ZDV (t:=7) rfl ?_;dsimp only [z0,z1])|(apply WL.opN;exact yF;dsimp only [ZB,z0,z1])|refine WL.nil ?_|refine ZA fun Kx hK=>?_|(refine hK _ _ ?_;clear hK)|refine WC.region ?_ |  (refine Zw tyV (OpD.t rfl) (OpD.t rfl) ZID ?_;dsimp only [ZB,z0,z1])|((first|apply WL.appK|apply WL.app1);(exact eD);exact OpD.t rfl;(exact oD);decide;(exact lD);(intro _;dsimp only [ZB,z0,z1]);all_goals (try infer_instance))|(apply WL.alloc;(first|exact tzV|exact tzC);(first|exact ZY rfl|exact ZAF|exact Zy rfl);(intro _;dsimp only [ZB,z0,z1]))|(apply WL.opN;(focus ((first|(exact SY.buildE (R:=RLS S RV) (_gR:=inferInstance) (els:=[s[k]]) elV (Zh (OpD.t rfl) Zq) rfl rfl (by decide) (fun _=>ZID) (by simp))|(refine ZCP (a:=m) (b:=k) (by omega) (OpD.t rfl) (OpD.t rfl))|(refine ZCO (m:=m) (i:=k) (by omega) (OpD.t rfl))|((first|apply SY.move|apply SY.assign|apply SY.lss|apply SY.eql|apply SY.and) <;> (exact oD))|((first|apply SY.add) <;> first|exact oD|omega)|(apply ZBC;(exact eD);(exact oD);(exact oD);exact kD)|fail);all_goals infer_instance));dsimp only [ZB,z0,z1])|(apply ZC;(exact oD);all_goals (intro h;try exact xD))|refine WC.skip ?_|refine WC.block ?_|refine ThenD.n ?_));all_goals (first|((repeat clear hK);(repeat clear Kx))))
    all_goals try (exfalso;first|contradiction|omega)
    (refine ⟨(k+1,_) , ?_,by first|omega|(simp only;omega),by ((try simp only);  (rw [ZDY hk,if_pos hb])),?_⟩;rotate_left;((try dsimp only [ZK,z0,z1]);repeat (first|exact LeF.nil|refine ZD (k:=?_)));(try dsimp only))
    omega
   | false =>
    have hcond:¬ ((((m >>> k) &&& 1:Nat):Int)=1):=fun q=>by rw [ZBl.1 q] at hb;cases hb
    ((repeat' (first |  (refine ZDV (t:=7) rfl ?_;dsimp only [z0,z1])|(apply WL.opN;exact yF;dsimp only [ZB,z0,z1])|refine WL.nil ?_|refine ZA fun Kx hK=>?_|(refine hK _ _ ?_;clear hK)|refine WC.region ?_ |  (refine Zw tyV (OpD.t rfl) (OpD.t rfl) ZID ?_;dsimp only [ZB,z0,z1])|(apply WL.alloc;(first|exact tzV|exact tzC);(first|exact ZY rfl|exact ZAF|exact Zy rfl);(intro _;dsimp only [ZB,z0,z1]))|(apply WL.opN;(focus ((first|(refine ZCP (a:=m) (b:=k) (by omega) (OpD.t rfl) (OpD.t rfl))|(refine ZCO (m:=m) (i:=k) (by omega) (OpD.t rfl))|((first|apply SY.move|apply SY.assign|apply SY.lss|apply SY.eql|apply SY.and) <;> (exact oD))|((first|apply SY.add) <;> first|exact oD|omega)|(apply ZBC;(exact eD);(exact oD);(exact oD);exact kD)|fail);all_goals infer_instance));dsimp only [ZB,z0,z1])|(apply ZC;(exact oD);all_goals (intro h;try exact xD))|refine WC.skip ?_|refine WC.block ?_|refine ThenD.n ?_));all_goals (first|((repeat clear hK);(repeat clear Kx))))
    all_goals try (exfalso;first|contradiction|omega)
    (refine ⟨(k+1,_) , ?_,by first|omega|(simp only;omega),by ((try simp only);  (rw [ZDY hk,if_neg (by simp [hb]),List.append_nil])),?_⟩;rotate_left;((try dsimp only [ZK,z0,z1]);repeat (first|exact LeF.nil|refine ZD (k:=?_)));(try dsimp only))
    omega
  ·((repeat' (first|(apply WL.opN;exact yF;dsimp only [ZB,z0,z1])|refine WL.nil ?_|refine ZA fun Kx hK=>?_|(refine hK _ _ ?_;clear hK)|(refine Kont.skip ?_;clear hK)|refine WC.region ?_|(apply WL.opN;(focus ((first|((first|apply SY.move|apply SY.assign|apply SY.lss|apply SY.eql|apply SY.and) <;> (exact oD))|fail);all_goals infer_instance));dsimp only [ZB,z0,z1])|(apply ZC;(exact oD);all_goals (intro h;try exact xD))|refine WC.ret ?_|refine WC.exit ?_));all_goals (first|((repeat clear hK);(repeat clear Kx))))
   all_goals try (exfalso;first|contradiction|omega)
   (refine ⟨trivial,_,rfl,?_⟩;refine ZBQ (.head _) ?_)
   rw [List.take_of_length_le (by omega)]
theorem ZT9 {l:Cx} (hg:∀ s∈l,ZAJ s=0):(∀ p∈ZBT l,okS p.1)/\((ZBT l).map (·.1)).Nodup:=⟨ZH0 _ (ZHh hg) (by simp),ZEg _ List.Pairwise.nil⟩
theorem ZSS (M:ZDz) (s:List Vx) (m:Nat) (hs:ZAJ s=0) (hm:m<1048576) (hMo:∀ p∈M,okS p.1) (hMk:(M.map (·.1)).Nodup):Fn Tryz.prog 26 [dI (m:Int),dP 1 false (dS (ZKc kvS RI) M),dP 1 false (dS ZKi s)] (dI (ZPW M (atB s m))):=by
 have h8:=(ZO.1 hs).2.1
 have hface:=ZNt (S:=False) s m (by omega) hm
 have hv:∀ v∈atB s m,okL v:=fun v hv=>ZJN hs v (ZHV _ _ v hv)
 have hl:=ZE0 s m
 have htext:=ZTC (atB s m) (by omega) hv
 have htl:=ZEo hv
 have hok1:okS (txS (atB s m)):=by unfold okS;omega
 unfold ZPW
 (refine ZG Tryz.func26 rfl rfl ?_;simp only [Tryz.ntmps26,List.length_cons,List.length_nil,Nat.reduceAdd,Nat.reduceSub,List.replicate_succ,List.replicate_zero,List.cons_append,List.nil_append])
 ((repeat' (first|((first|apply WL.opN|apply WD.opN);exact yF;dsimp only [ZB,z0,z1])|refine WL.nil ?_|refine WD.nil ?_|refine ZA fun Kx hK=>?_|(refine hK _ _ ?_;clear hK)|refine WC.region ?_|(apply WC.draw;kernel_rfl;kernel_rfl)|((first|apply WL.opN|apply WD.opN);(focus ((first|(apply SY.load;exact ZRN;exact OpD.t rfl)|(apply SY.call (hface) Tryz.call28;(exact aD))|(apply SY.call (htext) Tryz.call27;(exact aD))|(refine ZFW (v:=txS (atB s m)) (a0:=(0:Int)) ZDk ZJG (OpD.t rfl) (OpD.t rfl) isX hok1 hMo hMk (fun _ _=>rfl))|fail);all_goals infer_instance));dsimp only [ZB,z0,z1])|refine WC.ret ?_));all_goals (first|((repeat clear hK);(repeat clear Kx))))
 all_goals try (exfalso;first|contradiction|omega)
 (refine ⟨trivial,_,rfl,?_⟩;exact fD)
end
section
open Go.RowKit
def ZI6 (n:Nat):Nat:=[1,1,3,13,75,541].getD n 0
theorem ZN2:∀ n:Fin 6,(ZBR (2 ^ n.val-1)).length=ZI6 n.val:=by decide +kernel
theorem ZLI:∀ n:Fin 6,ZI6 n.val≤541:=by decide
abbrev ZMI:Value:=.agg #[.int .i64 1,.int .i64 1,.int .i64 3,.int .i64 13,.int .i64 75,.int .i64 541]
theorem ZQd:∀ w:World,(Instr.index 128 ZMI (.int .i64 0)).run Tryz.prog w = .ok (.int .i64 1) w:=fun _=>by kernel_rfl
theorem ZQe:∀ w:World,(Instr.index 128 ZMI (.int .i64 1)).run Tryz.prog w = .ok (.int .i64 1) w:=fun _=>by kernel_rfl
theorem ZQf:∀ w:World,(Instr.index 128 ZMI (.int .i64 2)).run Tryz.prog w = .ok (.int .i64 3) w:=fun _=>by kernel_rfl
theorem ZQg:∀ w:World,(Instr.index 128 ZMI (.int .i64 3)).run Tryz.prog w = .ok (.int .i64 13) w:=fun _=>by kernel_rfl
theorem ZQh:∀ w:World,(Instr.index 128 ZMI (.int .i64 4)).run Tryz.prog w = .ok (.int .i64 75) w:=fun _=>by kernel_rfl
theorem ZQi:∀ w:World,(Instr.index 128 ZMI (.int .i64 5)).run Tryz.prog w = .ok (.int .i64 541) w:=fun _=>by kernel_rfl
theorem ZSg:∀ (k:Nat),k<6->∀ w:World,(Instr.index 128 ZMI (.int .i64 (k:Int))).run Tryz.prog w = .ok (.int .i64 ((ZI6 k:Nat):Int)) w
 | 0,_=>ZQd
 | 1,_=>ZQe
 | 2,_=>ZQf
 | 3,_=>ZQg
 | 4,_=>ZQh
 | 5,_=>ZQi
 | k+6,h=>absurd h (by omega)
section
variable {ops:Array Oper} {hp:List HObj} {fr:List Dat} {dst:Option Tmp} {ty:TypeId} {ps:String} {af:Array Edge} {g:Option (Nat × Bool)} {x y:Operand}
theorem ZR8:SY Tryz.prog ops hp ⟨dst,.build 128 #[(0,.const (.int .i64 1)),(1,.const (.int .i64 1)),(2,.const (.int .i64 3)),(3,.const (.int .i64 13)),(4,.const (.int .i64 75)),(5,.const (.int .i64 541))],ty,ps,af,g⟩ fr (dX ZMI):=SY.val fun {I w a} ho=>by
 have hm:∀ w,(Instr.build 128 #[(0,.int .i64 1),(1,.int .i64 1),(2,.int .i64 3),(3,.int .i64 13),(4,.int .i64 75),(5,.int .i64 541)]).run Tryz.prog w = .ok ZMI w:=by intro w;go_simp
 refine ⟨ZMI,?_,rfl⟩
 unfold execOp
 simp only [List.map_toArray,List.map_cons,List.map_nil,Act.eval,Sem.run_bind,hm,Result.andThen_ok,Sem.run_pure]
theorem ZR9 {k:Nat} (hk:k<6) (hx:OpD fr x (dX ZMI)) (hy:OpD fr y (dI (k:Int))):SY Tryz.prog ops hp ⟨dst,.index 128 x y,ty,ps,af,g⟩ fr (dI ((ZI6 k:Nat):Int)):=SY.val fun {I w a} ho=>by
 have h1:a.eval x=ZMI:=hx.get (by simp [Op.operands]) ho
 have h2:a.eval y = .int .i64 (k:Int):=hy.get (by simp [Op.operands]) ho
 have hm:∀ w,(Instr.index 128 ZMI (.int .i64 (k:Int))).run Tryz.prog w = .ok (.int .i64 ((ZI6 k:Nat):Int)) w:=ZSg k hk
 refine ⟨.int .i64 ((ZI6 k:Nat):Int),?_,rfl⟩
 unfold execOp
 simp only [h1,h2,Sem.run_bind,hm,Result.andThen_ok,Sem.run_pure]
end

theorem ZQj (k:Nat) (hk:k<6):Fn Tryz.prog 56 [dI (k:Int)] (dI ((ZI6 k:Nat):Int)):=by
 (refine ZG Tryz.func56 rfl rfl ?_;simp only [Tryz.ntmps56,List.length_cons,List.length_nil,Nat.reduceAdd,Nat.reduceSub,List.replicate_succ,List.replicate_zero,List.cons_append,List.nil_append])
 ((repeat' (first|(apply WL.opN;exact yF;dsimp only [ZB,z0,z1])|refine WL.nil ?_|refine ZA fun Kx hK=>?_|(refine hK _ _ ?_;clear hK)|refine WC.region ?_|(apply WL.opN;(focus ((first|(exact ZR8)|(exact ZR9 hk (OpD.t rfl) (OpD.t rfl))|fail);all_goals infer_instance));dsimp only [ZB,z0,z1])|refine WC.ret ?_));all_goals (first|((repeat clear hK);(repeat clear Kx))))
 (refine ⟨trivial,_,rfl,?_⟩;exact fD)
def ZC6 (l:Cx):Nat:=(l.map fun s=>ZI6 s.length).sum
theorem ZEn {l:Cx} {i:Nat} (h:i<l.length):ZC6 (l.take (i+1))=ZC6 (l.take i)+ZI6 l[i].length:=by
 unfold ZC6;rw [ZP h,List.map_append,List.sum_append];simp
def ZF4 (l:Cx):Int:=if ZBH l≠0 then ZBH l else if l.all Z0=false then 3 else if l.any (fun s=>decide (5<s.length))=true then 5 else if 4096<ZC6 l then 5 else 0
theorem ZPG {l:Cx} (h5:∀ s∈l,s.length≤5):ZC6 l≤541*l.length:=by
 induction l with
 | nil=>simp [ZC6]
 | cons s l ih =>
  have h1:=ih fun t ht=>h5 t (by simp [ht])
  have h2:=ZLI ⟨s.length,by have:=h5 s (by simp);omega⟩
  unfold ZC6 at h1 ⊢
  rw [List.map_cons,List.sum_cons,List.length_cons]
  simp only at h2
  omega
set_option maxHeartbeats 8000000 in
theorem ZFG (l:Cx):Fn Tryz.prog 23 [dS Cpx l] (dI (ZF4 l)):=by
 have c1:=ZF1 l
 by_cases h0:ZBH l=0
 ·have hG:=ZAH.1 h0
  have hl:=hG.1
  have hg:=hG.2.2.1
  rw [h0] at c1
  (refine ZG Tryz.func23 rfl rfl ?_;simp only [Tryz.ntmps23,List.length_cons,List.length_nil,Nat.reduceAdd,Nat.reduceSub,List.replicate_succ,List.replicate_zero,List.cons_append,List.nil_append])
  (repeat' (first|(apply WL.opN;exact yF;dsimp only [ZB,z0,z1])|refine WL.nil ?_|refine ZA fun Kx hK=>?_|(refine hK _ _ ?_;clear hK)|refine WC.region ?_|(apply WL.opN;(focus ((first|(apply SY.call (c1) Tryz.call33;(exact aD))|((first|apply SY.move|apply SY.assign|apply SY.lss|apply SY.gtr|apply SY.neq|apply SY.not) <;> (exact oD))|(apply SY.len;(exact oD);(exact nD);(exact uD))|(apply Zs ZCt;exact OpD.t rfl)|(apply SY.box;(exact oD);(exact hD))|fail);all_goals infer_instance));dsimp only [ZB,z0,z1])|(apply ZL;(exact oD);all_goals (intro h;try exact xD))|refine WC.skip ?_|refine WC.block ?_))
  all_goals try (exfalso;first|contradiction|omega)
  (refine WC.loopU (X:=Nat) (fun k=>[(19,dI (k:Int)),(2,dA),(5,dA),(6,dA),(7,dA),(20,dA),(21,dA),(22,dA),(23,dA),(24,dA),(25,dA),(26,dA),(27,dA),(28,dA),(29,dA),(30,dA)]) (fun k=>[]) (fun k=>l.length-k) (fun k=>k≤l.length/\(l.take k).all Z0=true) 0 ?start ?frame0 ?objs0 ?round)
  case start=>exact ⟨Nat.zero_le _,rfl⟩
  case frame0=>((try dsimp only [ZK,z0,z1]);repeat (first|exact LeF.nil|refine ZD (k:=?_)))
  case objs0=>rfl
  case round =>
   rintro k ⟨k1,k2⟩
   dsimp only [ZK,z0,z1]
   by_cases hk:k<l.length
   ·have hgk:=hg _ (List.getElem_mem hk)
    have cC:=ZNY l[k]
    rw [show ZET l[k]=(Z0 l[k],0) by unfold ZET;rw [if_neg (by rw [hgk];decide)]] at cC
    have hsn:(l.take (k+1)).all Z0=Z0 l[k]:=by rw [ZP hk,List.all_append,k2];simp
    cases hd:Z0 l[k] with
    | true =>
     rw [hd] at cC hsn
     ((repeat' (first|(apply WL.opN;exact yF;dsimp only [ZB,z0,z1])|refine WL.nil ?_|refine ZA fun Kx hK=>?_|(refine hK _ _ ?_;clear hK)|refine WC.region ?_|(apply WL.opN;(focus ((first|(apply SY.call (cC) Tryz.call55;(exact aD))|(exact ZB8 (OpD.t rfl))|((first|apply SY.move|apply SY.assign|apply SY.lss|apply SY.gtr|apply SY.neq|apply SY.not) <;> (exact oD))|((first|apply SY.add) <;> first|exact oD|omega)|(apply ZAw;(exact eD);(exact oD);(exact oD);exact kD)|(apply SY.extract;(exact oD);rfl)|fail);all_goals infer_instance));dsimp only [ZB,z0,z1])|(apply Zi;(exact oD);(with_reducible rfl))|(apply ZC;(exact oD);all_goals (intro h;try exact xD))|refine WC.skip ?_|refine WC.block ?_|refine ThenD.n ?_));all_goals (first|((repeat clear hK);(repeat clear Kx))))
     all_goals try (exfalso;first|contradiction|omega)
     (refine ⟨k+1,?_,by first|omega|(simp only;omega),rfl,?_⟩;rotate_left;((try dsimp only [ZK,z0,z1]);repeat (first|exact LeF.nil|refine ZD (k:=?_)));(try dsimp only))
     exact ⟨by omega,hsn⟩
    | false =>
     rw [hd] at cC
     have he:ZF4 l=3:=by
      unfold ZF4
      rw [if_neg (by rw [h0];decide),if_pos]
      exact List.all_eq_false.2 ⟨_,List.getElem_mem hk,by rw [hd];decide⟩
     rw [he]
     ((repeat' (first|(apply WL.opN;exact yF;dsimp only [ZB,z0,z1])|refine WL.nil ?_|refine ZA fun Kx hK=>?_|(refine hK _ _ ?_;clear hK)|refine WC.region ?_|(apply WL.opN;(focus ((first|(apply SY.call (cC) Tryz.call55;(exact aD))|((first|apply SY.move|apply SY.assign|apply SY.lss|apply SY.gtr|apply SY.neq|apply SY.not) <;> (exact oD))|(apply ZAw;(exact eD);(exact oD);(exact oD);exact kD)|(apply SY.extract;(exact oD);rfl)|fail);all_goals infer_instance));dsimp only [ZB,z0,z1])|(apply ZC;(exact oD);all_goals (intro h;try exact xD))|(apply Z7;(exact oD);all_goals (intro h;try exact xD))|refine WC.skip ?_|refine WC.ret ?_|refine WC.block ?_|refine ThenD.r ?_|refine InBlockD.r ?_));all_goals (first|((repeat clear hK);(repeat clear Kx))))
     all_goals try (exfalso;first|contradiction|omega)
     all_goals (refine ⟨trivial,_,rfl,?_⟩;exact fD)
   ·have hall:l.all Z0=true:=by rw [List.take_of_length_le (by omega)] at k2;exact k2
    (repeat' (first|(apply WL.opN;exact yF;dsimp only [ZB,z0,z1])|refine WL.nil ?_|refine ZA fun Kx hK=>?_|(refine hK _ _ ?_;clear hK)|(refine Kont.skip ?_;clear hK)|refine WC.region ?_|(apply WL.opN;(focus ((first|((first|apply SY.move|apply SY.assign|apply SY.lss|apply SY.gtr|apply SY.neq|apply SY.not) <;> (exact oD))|(apply SY.len;(exact oD);(exact nD);(exact uD))|(apply Zs ZCt;exact OpD.t rfl)|fail);all_goals infer_instance));dsimp only [ZB,z0,z1])|(apply ZC;(exact oD);all_goals (intro h;try exact xD))|refine WC.exit ?_|refine WC.block ?_))
    all_goals try (exfalso;first|contradiction|omega)
    (refine WC.loopU (X:=Nat) (fun j=>[(34,dI (j:Int)),(8,dI ((ZC6 (l.take j):Nat):Int)),(2,dA),(10,dA),(35,dA),(36,dA),(37,dA),(38,dA),(39,dA),(40,dA),(41,dA),(42,dA),(43,dA),(44,dA),(45,dA),(46,dA)]) (fun j=>[]) (fun j=>l.length-j) (fun j=>j≤l.length/\∀ s∈l.take j,s.length≤5) 0 ?start ?frame0 ?objs0 ?round)
    case start=>exact ⟨Nat.zero_le _,by simp⟩
    case frame0=>((try dsimp only [ZK,z0,z1]);repeat (first|exact LeF.nil|refine ZD (k:=?_)))
    case objs0=>rfl
    case round =>
     rintro j ⟨j1,j2⟩
     dsimp only [ZK,z0,z1]
     have hsl:=ZPG j2
     rw [List.length_take] at hsl
     by_cases hj:j<l.length
     ·by_cases h5:5<l[j].length
      ·have he:ZF4 l=5:=by
        unfold ZF4
        rw [if_neg (by rw [h0];decide),if_neg (by rw [hall];decide),if_pos]
        exact List.any_eq_true.2 ⟨_,List.getElem_mem hj,decide_eq_true h5⟩
       rw [he]
       ((repeat' (first|(apply WL.opN;exact yF;dsimp only [ZB,z0,z1])|refine WL.nil ?_|refine ZA fun Kx hK=>?_|(refine hK _ _ ?_;clear hK)|refine WC.region ?_|(apply WL.opN;(focus ((first|((first|apply SY.move|apply SY.assign|apply SY.lss|apply SY.gtr|apply SY.neq|apply SY.not) <;> (exact oD))|(apply SY.len;(exact oD);(exact nD);(exact uD))|(apply ZAw;(exact eD);(exact oD);(exact oD);exact kD)|fail);all_goals infer_instance));dsimp only [ZB,z0,z1])|(apply ZC;(exact oD);all_goals (intro h;try exact xD))|refine WC.skip ?_|refine WC.ret ?_|refine WC.block ?_|refine ThenD.r ?_|refine InBlockD.r ?_));all_goals (first|((repeat clear hK);(repeat clear Kx))))
       all_goals try (exfalso;first|contradiction|omega)
       all_goals (refine ⟨trivial,_,rfl,?_⟩;exact fD)
      ·have cf:=ZQj l[j].length (by omega)
       have hsn:=ZEn hj
       have hf5:=ZLI ⟨l[j].length,by omega⟩
       simp only at hf5
       have hsn2:((ZC6 (l.take j):Nat):Int)+((ZI6 l[j].length:Nat):Int)=((ZC6 (l.take (j+1)):Nat):Int):=by rw [hsn];omega
       clear hsn
       ((repeat' (first|(apply WL.opN;exact yF;dsimp only [ZB,z0,z1])|refine WL.nil ?_|refine ZA fun Kx hK=>?_|(refine hK _ _ ?_;clear hK)|refine WC.region ?_|(apply WL.opN;(focus ((first|(apply SY.call (cf) Tryz.call56;(exact aD))|((first|apply SY.move|apply SY.assign|apply SY.lss|apply SY.gtr|apply SY.neq|apply SY.not) <;> (exact oD))|((first|apply SY.add) <;> first|exact oD|omega)|(apply SY.len;(exact oD);(exact nD);(exact uD))|(apply ZAw;(exact eD);(exact oD);(exact oD);exact kD)|fail);all_goals infer_instance));dsimp only [ZB,z0,z1])|(apply ZC;(exact oD);all_goals (intro h;try exact xD))|refine WC.skip ?_|refine WC.block ?_|refine ThenD.n ?_));all_goals (first|((repeat clear hK);(repeat clear Kx))))
       all_goals try (exfalso;first|contradiction|omega)
       rw [hsn2]
       (refine ⟨j+1,?_,by first|omega|(simp only;omega),rfl,?_⟩;rotate_left;((try dsimp only [ZK,z0,z1]);repeat (first|exact LeF.nil|refine ZD (k:=?_)));(try dsimp only))
       refine ⟨by omega,fun s hs=>?_⟩
       rw [ZP hj] at hs
       rcases List.mem_append.1 hs with q|q
       ·exact j2 s q
       ·rw [List.mem_singleton.1 q];omega
     ·rw [List.take_of_length_le (by omega)] at j2
      rw [List.take_of_length_le (show l.length≤j by omega)]
      have hno:l.any (fun s=>decide (5<s.length))=false:=List.any_eq_false.2 fun s hs=>by have:=j2 s hs;simp;omega
      have he:ZF4 l=if 4096<ZC6 l then 5 else 0:=by
       unfold ZF4
       rw [if_neg (by rw [h0];decide),if_neg (by rw [hall];decide),if_neg (by rw [hno];decide)]
      by_cases hs:4096<ZC6 l
      ·rw [if_pos hs] at he
       ((repeat' (first|(apply WL.opN;exact yF;dsimp only [ZB,z0,z1])|refine WL.nil ?_|refine ZA fun Kx hK=>?_|(refine hK _ _ ?_;clear hK)|(refine Kont.skip ?_;clear hK)|refine WC.region ?_|(apply WL.opN;(focus ((first|((first|apply SY.move|apply SY.assign|apply SY.lss|apply SY.gtr|apply SY.neq|apply SY.not) <;> (exact oD))|fail);all_goals infer_instance));dsimp only [ZB,z0,z1])|(apply ZC;(exact oD);all_goals (intro h;try exact xD))|refine WC.ret ?_|refine WC.exit ?_|refine ThenD.r ?_));all_goals (first|((repeat clear hK);(repeat clear Kx))))
       all_goals try (exfalso;first|contradiction|omega)
       all_goals (refine ⟨trivial,_,rfl,?_⟩;refine FinD.i ?_)
       all_goals rw [he]
      ·rw [if_neg hs] at he
       ((repeat' (first|(apply WL.opN;exact yF;dsimp only [ZB,z0,z1])|refine WL.nil ?_|refine ZA fun Kx hK=>?_|(refine hK _ _ ?_;clear hK)|(refine Kont.skip ?_;clear hK)|refine WC.region ?_|(apply WL.opN;(focus ((first|((first|apply SY.move|apply SY.assign|apply SY.lss|apply SY.gtr|apply SY.neq|apply SY.not) <;> (exact oD))|fail);all_goals infer_instance));dsimp only [ZB,z0,z1])|(apply ZC;(exact oD);all_goals (intro h;try exact xD))|refine WC.skip ?_|refine WC.ret ?_|refine WC.exit ?_));all_goals (first|((repeat clear hK);(repeat clear Kx))))
       all_goals try (exfalso;first|contradiction|omega)
       all_goals (refine ⟨trivial,_,rfl,?_⟩;refine FinD.i ?_)
       all_goals rw [he]
 ·have he:ZF4 l=ZBH l:=by unfold ZF4;rw [if_pos h0]
  rw [he]
  (refine ZG Tryz.func23 rfl rfl ?_;simp only [Tryz.ntmps23,List.length_cons,List.length_nil,Nat.reduceAdd,Nat.reduceSub,List.replicate_succ,List.replicate_zero,List.cons_append,List.nil_append])
  ((repeat' (first|(apply WL.opN;exact yF;dsimp only [ZB,z0,z1])|refine WL.nil ?_|refine ZA fun Kx hK=>?_|(refine hK _ _ ?_;clear hK)|refine WC.region ?_|(apply WL.opN;(focus ((first|(apply SY.call (c1) Tryz.call33;(exact aD))|((first|apply SY.move|apply SY.assign|apply SY.lss|apply SY.gtr|apply SY.neq|apply SY.not) <;> (exact oD))|(apply SY.box;(exact oD);(exact hD))|fail);all_goals infer_instance));dsimp only [ZB,z0,z1])|(apply ZL;(exact oD);all_goals (intro h;try exact xD))|refine WC.ret ?_|refine ThenD.r ?_));all_goals (first|((repeat clear hK);(repeat clear Kx))))
  all_goals try (exfalso;first|contradiction|omega)
  all_goals (refine ⟨trivial,_,rfl,?_⟩;exact fD)
end
end Go.Proofs.YtlgmojhmmbhgfaaGreatDoor
