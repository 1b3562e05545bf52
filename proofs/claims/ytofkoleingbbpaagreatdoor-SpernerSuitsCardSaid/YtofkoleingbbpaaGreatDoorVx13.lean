/- Part 13: walks by contracts, and plain laws. -/
import Derived.Test.YtofkoleingbbpaaGreatDoorVx12
set_option linter.unusedVariables false
set_option linter.unusedSimpArgs false
set_option linter.unusedSectionVars false
set_option maxRecDepth 100000
set_option maxHeartbeats 4000000
namespace Go.Proofs.YtofkoleingbbpaaGreatDoor
section
open Go.RowKit

theorem ZRU {s:List Vx} {v:Vx} {k:Nat} (h:k<s.length) (hx:∀ y∈s.take k,¬ ZAK v y<0) (hlt:ZAK v s[k]<0):s.take k++v::s.drop k=ZFo s v:=by
 rw [ZJE s v k (by omega) hx,ZAV h]
 unfold ZFo
 rw [if_pos hlt]
theorem ZPP {s:List Vx} {v:Vx} (hx:∀ y∈s,¬ ZAK v y<0):s++[v]=ZFo s v:=by
 rw [ZJE s v s.length (Nat.le_refl _) (by rw [List.take_of_length_le (Nat.le_refl _)];exact hx)]
 simp [ZFo]
set_option maxHeartbeats 4000000 in
theorem put_c (s:List Vx) (v:Vx) (hs:s.length≤1000):Fn Tryz.prog 146 [dS ZJ s,dS RV v] (dS ZJ (ZIa s v)):=by
 (refine ZE Tryz.func146 rfl rfl ?_;simp only [Tryz.ntmps146,List.length_cons,List.length_nil,Nat.reduceAdd,Nat.reduceSub,List.replicate_succ,List.replicate_zero,List.cons_append,List.nil_append])
 ((repeat' (first|((first|apply WL.opN|apply WD.opN);exact yF;dsimp only [ZB,z0,z1])|refine WL.nil ?_|refine ZA fun Kx hK=>?_|(refine hK _ _ ?_;clear hK)|refine WC.region ?_|((first|apply ZF|apply WD.op);(focus (first|exact wN|(apply SYG.yes;(exact wY);((first|(apply SY.call (ZSj _ _) Tryz.call55;(exact aD))|exact ZFl|fail);all_goals infer_instance))));dsimp only [ZB,z0,z1])|(apply ZC;(exact oD);all_goals (intro h;try exact xD))|refine WC.skip ?_|refine WC.ret ?_|refine WC.block ?_|refine ThenD.r ?_));all_goals (first|refine WC.id ?_|((repeat clear hK);(repeat clear Kx))))
 ·(refine ⟨trivial,_,rfl,?_⟩;refine ZLe ?_)
  unfold ZIa;rw [if_pos h]
 ·have hp:ZIa s v=ZFo s v:=by unfold ZIa;rw [if_neg h]
  refine ZD1 77 2 (by decide) RV ?_
  (refine WC.loopU (X:=Nat × Bool × Value × List Vx) (fun x=>[(5,dX x.2.2.1),(6,dB x.2.1),(7,dI (x.1:Int)),(12,dA),(13,dA),(14,dA),(15,dA),(16,dA),(17,dA),(18,dA),(19,dA),(20,dA),(21,dA),(22,dA),(23,dA),(24,dA),(25,dA),(26,dA),(27,dA),(28,dA),(29,dA),(30,dA),(31,dA),(32,dA),(33,dA),(34,dA),(35,dA),(36,dA),(37,dA),(38,dA),(39,dA)]) (fun x=>[Zm x.2.2.1 77 2 RV x.2.2.2]) (fun x=>s.length-x.1) (fun x=>x.1≤s.length/\x.2.2.2.length≤x.1+1/\(x.2.1=false->x.2.2.2=s.take x.1/\∀ y∈s.take x.1,¬ ZAK v y<0)/\(x.2.1=true->x.2.2.2++s.drop x.1=ZFo s v)) (0,false,.slice none 0 0,[]) ?start ?frame0 ?objs0 ?round)
  case start=>simp
  case frame0=>((try dsimp only [ZK,z0,z1]);repeat (first|exact LeF.nil|refine ZD (k:=?_)))
  case objs0=>rfl
  case round =>
   rintro ⟨k,dn,u,o⟩ ⟨h1,h2,h3,h4⟩
   dsimp only [ZK,z0,z1]
   simp only at h1 h2 h3 h4
   cases dn with
   | true =>
    ((repeat' (first|((first|apply WL.opN|apply WD.opN);exact yF;dsimp only [ZB,z0,z1])|refine WL.nil ?_|refine WD.nil ?_|refine ZA fun Kx hK=>?_|(refine hK _ _ ?_;clear hK)|(refine Kont.skip ?_;clear hK)|refine WC.region ?_|(apply WC.draw;kernel_rfl;kernel_rfl)|((first|apply ZAp|apply Z6);(exact eD);exact OpD.t rfl;(exact oD);(intro _;exact hD);(exact (by simp));(exact (by simp));(first|exact ⟨by decide,by decide⟩|skip);decide;(exact lD);(intro _;dsimp only [ZB,z0,z1]);all_goals (try infer_instance))|((first|apply ZF|apply WD.op);(focus (first|exact wN|(apply SYG.yes;(exact wY);((first|exact ZBx|exact ZOT|exact ZC5|exact ZBg|exact ZV|exact ZDY|fail);all_goals infer_instance))));dsimp only [ZB,z0,z1])|((first|refine ZN rfl rfl rfl (fun h=>?_) (fun h=>?_)|refine ZM rfl rfl rfl (fun h=>?_) (fun h=>?_)|refine ZL rfl rfl rfl (fun h=>?_) (fun h=>?_)|refine Za rfl rfl rfl (fun h=>?_) (fun h=>?_)|refine ZZ rfl rfl rfl (fun h=>?_) (fun h=>?_)|refine ZW rfl rfl rfl (fun h=>?_) (fun h=>?_)) <;> (first|(exfalso;first|omega|contradiction)|(dsimp only [z0,z1])))|(apply ZY;(exact oD);(with_reducible rfl))|(apply ZC;(exact oD);all_goals (intro h;try exact xD))|(apply ZO;(exact oD);all_goals (intro h;try exact xD))|refine WC.skip ?_|refine WC.ret ?_|refine WC.exit ?_|refine WC.block ?_|refine ThenD.n ?_));all_goals (first|((repeat clear hK);(repeat clear Kx))))
    ·(refine ⟨(k+1,true,_,_),?_,by first|omega|(simp only;omega),rfl,?_⟩;rotate_left;((try dsimp only [ZK,z0,z1]);repeat (first|exact LeF.nil|refine ZD (k:=?_)));(try dsimp only))
     have hk:k<s.length:=by omega
     refine ⟨by omega,by simp;omega,fun hc=>absurd hc (by simp),fun _=>?_⟩
     rw [<- h4 rfl,ZAV hk];simp
    ·(refine ⟨trivial,_,rfl,?_⟩;refine ZCA (.head _) ?_)
     rw [hp,<- h4 rfl,List.drop_of_length_le (by omega)];simp
   | false =>
    obtain ⟨rfl,h5⟩:=h3 rfl
    ((repeat' (first|((first|apply WL.opN|apply WD.opN);exact yF;dsimp only [ZB,z0,z1])|refine WL.nil ?_|refine WD.nil ?_|refine ZA fun Kx hK=>?_|(refine hK _ _ ?_;clear hK)|(refine Kont.skip ?_;clear hK)|refine WC.region ?_|(apply WC.draw;kernel_rfl;kernel_rfl)|((first|apply ZAp|apply Z6);(exact eD);exact OpD.t rfl;(exact oD);(intro _;exact hD);(exact (by simp));(exact (by simp));(first|exact ⟨by decide,by decide⟩|skip);decide;(exact lD);(intro _;dsimp only [ZB,z0,z1]);all_goals (try infer_instance))|((first|apply ZF|apply WD.op);(focus (first|exact wN|(apply SYG.yes;(exact wY);((first|(apply SY.call (ZJs _ _) Tryz.call42;(exact aD))|exact ZDv|exact ZBx|exact ZOT|exact ZC5|exact ZEg|exact ZBg|exact ZV|exact ZDY|fail);all_goals infer_instance))));dsimp only [ZB,z0,z1])|((first|refine ZN rfl rfl rfl (fun h=>?_) (fun h=>?_)|refine ZM rfl rfl rfl (fun h=>?_) (fun h=>?_)|refine ZL rfl rfl rfl (fun h=>?_) (fun h=>?_)|refine Za rfl rfl rfl (fun h=>?_) (fun h=>?_)|refine ZZ rfl rfl rfl (fun h=>?_) (fun h=>?_)|refine ZW rfl rfl rfl (fun h=>?_) (fun h=>?_)) <;> (first|(exfalso;first|omega|contradiction)|(dsimp only [z0,z1])))|(apply ZC;(exact oD);all_goals (intro h;try exact xD))|(apply ZO;(exact oD);all_goals (intro h;try exact xD))|refine WC.skip ?_|refine WC.ret ?_|refine WC.exit ?_|refine WC.block ?_|refine ThenD.n ?_));all_goals (first|((repeat clear hK);(repeat clear Kx))))
    ·(refine ⟨(k+1,true,_,_),?_,by first|omega|(simp only;omega),rfl,?_⟩;rotate_left;((try dsimp only [ZK,z0,z1]);repeat (first|exact LeF.nil|refine ZD (k:=?_)));(try dsimp only))
     have hk:k<s.length:=by omega
     refine ⟨by omega,by simp;omega,fun hc=>absurd hc (by simp),fun _=>?_⟩
     rw [<- ZRU hk h5 h,ZAV hk];simp
    ·(refine ⟨(k+1,false,_,_),?_,by first|omega|(simp only;omega),rfl,?_⟩;rotate_left;((try dsimp only [ZK,z0,z1]);repeat (first|exact LeF.nil|refine ZD (k:=?_)));(try dsimp only))
     have hk:k<s.length:=by omega
     refine ⟨by omega,by simp;omega,fun _=>⟨(Zc hk).symm,fun y hy=>?_⟩,fun hc=>absurd hc (by simp)⟩
     rcases (ZA7 hk).1 hy with h'|rfl
     ·exact h5 y h'
     ·exact h
    ·(refine ⟨trivial,_,rfl,?_⟩;refine ZCA (.head _) ?_)
     rw [hp]
     rw [List.take_of_length_le (by omega)] at h5 ⊢
     exact ZPP h5
theorem ZPQ (a b:List Vx):Fn Tryz.prog 87 [dS ZJ a,dS ZJ b] (dB (ZAu a b)):=by
 (refine ZE Tryz.func87 rfl rfl ?_;simp only [Tryz.ntmps87,List.length_cons,List.length_nil,Nat.reduceAdd,Nat.reduceSub,List.replicate_succ,List.replicate_zero,List.cons_append,List.nil_append])
 (repeat' (first|(apply WL.opN;exact yF;dsimp only [ZB,z0,z1])|refine WL.nil ?_|refine ZA fun Kx hK=>?_|(refine hK _ _ ?_;clear hK)|refine WC.region ?_|refine WC.block ?_))
 (first|refine ZQ (t:=0) rfl ZEX fun hl0=>?_|refine ZQ (t:=0) rfl ZD7 fun hl0=>?_);simp only [maxLen] at hl0
 (refine WC.loopU (X:=Nat) (fun k=>[(5,dI (k:Int)),(4,dA),(6,dA),(7,dA),(8,dA),(9,dA),(10,dA),(11,dA),(12,dA),(13,dA),(14,dA),(15,dA),(16,dA),(17,dA),(18,dA)]) (fun k=>[]) (fun k=>a.length-k) (fun k=>k≤a.length/\(a.take k).all (fun x=>decide (x∈b))=true) 0 ?start ?frame0 ?objs0 ?round)
 case start=>simp
 case frame0=>((try dsimp only [ZK,z0,z1]);repeat (first|exact LeF.nil|refine ZD (k:=?_)))
 case objs0=>rfl
 case round =>
  rintro k ⟨h1,h2⟩
  dsimp only [ZK,z0,z1]
  ((repeat' (first|(apply WL.opN;exact yF;dsimp only [ZB,z0,z1])|refine WL.nil ?_|refine ZA fun Kx hK=>?_|(refine hK _ _ ?_;clear hK)|(refine Kont.skip ?_;clear hK)|refine WC.region ?_|(apply WL.opN;(focus ((first|(apply SY.call (ZSj _ _) Tryz.call55;(exact aD))|exact ZBx|exact ZOT|exact ZC5|exact ZBg|exact ZV|fail);all_goals infer_instance));dsimp only [ZB,z0,z1])|(apply ZC;(exact oD);all_goals (intro h;try exact xD))|(apply ZG;(exact oD);all_goals (intro h;try exact xD))|refine WC.skip ?_|refine WC.ret ?_|refine WC.exit ?_|refine WC.block ?_|refine ThenD.n ?_|refine ThenD.r ?_|refine InBlockD.r ?_));all_goals (first|((repeat clear hK);(repeat clear Kx))))
  ·(refine ⟨trivial,_,rfl,?_⟩;refine FinD.b ?_)
   unfold ZAu
   symm
   rw [List.all_eq_false]
   exact ⟨a[k],List.getElem_mem _,by simpa using h⟩
  ·(refine ⟨k+1,?_,by first|omega|(simp only;omega),rfl,?_⟩;rotate_left;((try dsimp only [ZK,z0,z1]);repeat (first|exact LeF.nil|refine ZD (k:=?_)));(try dsimp only))
   exact ⟨by omega,by rw [ZJh (by omega),h2];simpa using h⟩
  ·(refine ⟨trivial,_,rfl,?_⟩;refine FinD.b ?_)
   rw [List.take_of_length_le (by omega)] at h2
   exact h2.symm
theorem ZSS (a b:List Vx) (ha:a.length≤800) (hb:b.length≤100):Fn Tryz.prog 126 [dS ZJ a,dS ZJ b] (dS ZJ (ZEb a b)):=by
 (refine ZE Tryz.func126 rfl rfl ?_;simp only [Tryz.ntmps126,List.length_cons,List.length_nil,Nat.reduceAdd,Nat.reduceSub,List.replicate_succ,List.replicate_zero,List.cons_append,List.nil_append])
 (repeat' (first|(apply WL.opN;exact yF;dsimp only [ZB,z0,z1])|refine WL.nil ?_|refine ZA fun Kx hK=>?_|(refine hK _ _ ?_;clear hK)|refine WC.region ?_ |  (apply ZC7 elV RV (by decide);(intro _;dsimp only [ZB,z0,z1]);all_goals (try infer_instance))|((first|apply WL.appK|apply WL.app1);(exact eD);exact OpD.t rfl;(exact oD);decide;(exact lD);(intro _;dsimp only [ZB,z0,z1]);all_goals (try infer_instance))|refine WC.block ?_))
 refine ZOj (s:=5) rfl ?_
 dsimp only [z0,z1,List.nil_append]
 (refine WC.loopU (X:=Nat) (fun k=>[(5,dS ZJ (ZEb a (b.take k))),(6,dI (k:Int)),(10,dA),(11,dA),(12,dA),(13,dA),(14,dA),(15,dA),(16,dA),(17,dA),(18,dA),(19,dA),(20,dA),(21,dA)]) (fun k=>[]) (fun k=>b.length-k) (fun k=>k≤b.length) 0 ?start ?frame0 ?objs0 ?round)
 case start=>simp
 case frame0=>((try dsimp only [ZK,z0,z1]);repeat (first|exact LeF.nil|refine ZD (k:=?_)))
 case objs0=>rfl
 case round =>
  rintro k h1
  dsimp only [ZK,z0,z1]
  have h2:=(ZGg (b.take k) a).2
  have h3:(b.take k).length≤k:=List.length_take_le _ _
  have h4:(ZEb a (b.take k)).length≤1000:=by omega
  ((repeat' (first|(apply WL.opN;exact yF;dsimp only [ZB,z0,z1])|refine WL.nil ?_|refine ZA fun Kx hK=>?_|(refine hK _ _ ?_;clear hK)|(refine Kont.skip ?_;clear hK)|refine WC.region ?_|(apply WL.opN;(focus ((first|(apply SY.call (put_c _ _ h4) Tryz.call146;(exact aD))|exact ZBx|exact ZC5|exact ZBg|exact ZV|fail);all_goals infer_instance));dsimp only [ZB,z0,z1])|(apply ZC;(exact oD);all_goals (intro h;try exact xD))|refine WC.skip ?_|refine WC.ret ?_|refine WC.exit ?_|refine WC.block ?_|refine ThenD.n ?_));all_goals (first|((repeat clear hK);(repeat clear Kx))))
  ·rw [<- ZMP a b k (by omega)]
   (refine ⟨k+1,?_,by first|omega|(simp only;omega),rfl,?_⟩;rotate_left;((try dsimp only [ZK,z0,z1]);repeat (first|exact LeF.nil|refine ZD (k:=?_)));(try dsimp only))
   omega
  ·(refine ⟨trivial,_,rfl,?_⟩;refine ZLe ?_)
   rw [List.take_of_length_le (by omega)]
set_option maxHeartbeats 4000000 in
theorem ZNs (l m:List (List Vx)):Fn Tryz.prog 17 [dS Zv l,dS Zv m] (dB (decide (l=m))):=by
 (refine ZE Tryz.func17 rfl rfl ?_;simp only [Tryz.ntmps17,List.length_cons,List.length_nil,Nat.reduceAdd,Nat.reduceSub,List.replicate_succ,List.replicate_zero,List.cons_append,List.nil_append])
 ((repeat' (first|((first|apply WL.opN|apply WD.opN);exact yF;dsimp only [ZB,z0,z1])|refine WL.nil ?_|refine ZA fun Kx hK=>?_|(refine hK _ _ ?_;clear hK)|refine WC.region ?_|((first|apply WL.opN|apply WD.opN);(focus ((first|exact ZEu|exact ZBg|fail);all_goals infer_instance));dsimp only [ZB,z0,z1])|(apply ZG;(exact oD);all_goals (intro h;try exact xD))|refine WC.skip ?_|refine WC.ret ?_|refine WC.block ?_|refine ThenD.r ?_));all_goals (first|refine WC.id ?_|((repeat clear hK);(repeat clear Kx))))
 ·(refine ⟨trivial,_,rfl,?_⟩;refine FinD.b ?_)
  have:l≠m:=fun e=>h (by rw [e])
  simp [this]
 ·have hl:l.length=m.length:=by omega
  (first|refine ZQ (t:=0) rfl ZEX fun hl0=>?_|refine ZQ (t:=0) rfl ZD7 fun hl0=>?_);simp only [maxLen] at hl0
  (refine WC.loopU (X:=Nat) (fun k=>[(5,dI (k:Int)),(4,dA),(11,dA),(12,dA),(13,dA),(14,dA),(15,dA),(16,dA),(17,dA),(18,dA),(19,dA),(20,dA),(21,dA),(22,dA),(23,dA),(24,dA),(25,dA),(26,dA)]) (fun k=>[]) (fun k=>l.length-k) (fun k=>k≤l.length/\l.take k=m.take k) 0 ?start ?frame0 ?objs0 ?round)
  case start=>simp
  case frame0=>((try dsimp only [ZK,z0,z1]);repeat (first|exact LeF.nil|refine ZD (k:=?_)))
  case objs0=>rfl
  case round =>
   rintro k ⟨h1,h2⟩
   dsimp only [ZK,z0,z1]
   ((repeat' (first|((first|apply WL.opN|apply WD.opN);exact yF;dsimp only [ZB,z0,z1])|refine WL.nil ?_|refine WD.nil ?_|refine ZA fun Kx hK=>?_|(refine hK _ _ ?_;clear hK)|(refine Kont.skip ?_;clear hK)|refine WC.region ?_|(apply WC.draw;kernel_rfl;kernel_rfl)|((first|apply WL.opN|apply WD.opN);(focus ((first|(apply SY.call (ZQh _ _) Tryz.call38;(exact aD))|exact ZBx|exact ZOT|exact ZC5|exact ZBg|exact ZV|fail);all_goals infer_instance));dsimp only [ZB,z0,z1])|(apply ZC;(exact oD);all_goals (intro h;try exact xD))|(apply ZG;(exact oD);all_goals (intro h;try exact xD))|refine WC.skip ?_|refine WC.ret ?_|refine WC.exit ?_|refine WC.block ?_|refine ThenD.n ?_|refine ThenD.r ?_|refine InBlockD.r ?_));all_goals (first|((repeat clear hK);(repeat clear Kx))))
   ·(refine ⟨trivial,_,rfl,?_⟩;refine FinD.b ?_)
    have:l≠m:=fun e=>h (ZCr.2 (by simp [e]))
    simp [this]
   ·(refine ⟨k+1,?_,by first|omega|(simp only;omega),rfl,?_⟩;rotate_left;((try dsimp only [ZK,z0,z1]);repeat (first|exact LeF.nil|refine ZD (k:=?_)));(try dsimp only))
    exact ⟨by omega,by rw [Zc (by omega),Zc (by omega),h2,ZCr.1 h]⟩
   ·(refine ⟨trivial,_,rfl,?_⟩;refine FinD.b ?_)
    rw [List.take_of_length_le (by omega),List.take_of_length_le (by omega)] at h2
    simp [h2]
end
section
open Go.RowKit

set_option maxHeartbeats 4000000 in
theorem ZMi (a b:List Vx):Fn Tryz.prog 122 [dS ZJ a,dS ZJ b,ZIs Tryz.prog (fun x:Vx × Vx=>[dS RV x.1,dS RV x.2]) (fun x=>dI (ZAK x.1 x.2))] (dI (ZAX a b)):=by
 (refine ZE Tryz.func122 rfl rfl ?_;simp only [Tryz.ntmps122,List.length_cons,List.length_nil,Nat.reduceAdd,Nat.reduceSub,List.replicate_succ,List.replicate_zero,List.cons_append,List.nil_append])
 (repeat' (first|(apply WL.opN;exact yF;dsimp only [ZB,z0,z1])|refine WL.nil ?_|refine ZA fun Kx hK=>?_|(refine hK _ _ ?_;clear hK)|refine WC.region ?_|(apply WL.opN;(focus ((first|exact ZBg|fail);all_goals infer_instance));dsimp only [ZB,z0,z1])|refine WC.block ?_))
 (first|refine ZQ (t:=0) rfl ZEX fun hl0=>?_|refine ZQ (t:=0) rfl ZD7 fun hl0=>?_);simp only [maxLen] at hl0
 (first|refine ZQ (t:=1) rfl ZEX fun hl1=>?_|refine ZQ (t:=1) rfl ZD7 fun hl1=>?_);simp only [maxLen] at hl1
 (refine WC.loopU (X:=Nat) (fun k=>[(13,dI (k:Int)),(6,dA),(7,dA),(8,dA),(9,dA),(10,dA),(14,dA),(15,dA),(16,dA),(17,dA),(18,dA),(19,dA),(20,dA),(21,dA),(22,dA),(23,dA),(24,dA),(25,dA),(26,dA),(27,dA),(28,dA),(29,dA),(30,dA),(31,dA),(32,dA),(33,dA)]) (fun k=>[]) (fun k=>a.length-k) (fun k=>k≤a.length/\k≤b.length/\ZAX a b=ZAX (a.drop k) (b.drop k)) 0 ?start ?frame0 ?objs0 ?round)
 case start=>exact ⟨Nat.zero_le _,Nat.zero_le _,rfl⟩
 case frame0=>((try dsimp only [ZK,z0,z1]);repeat (first|exact LeF.nil|refine ZD (k:=?_)))
 case objs0=>rfl
 case round =>
  rintro k ⟨h1,h2,h3⟩
  dsimp only [ZK,z0,z1]
  ((repeat' (first|(apply WL.opN;exact yF;dsimp only [ZB,z0,z1])|refine WL.nil ?_|refine ZA fun Kx hK=>?_|(refine hK _ _ ?_;clear hK)|(refine Kont.skip ?_;clear hK)|refine WC.region ?_|(apply WL.alloc;(exact tzV);(first|exact Zs rfl|exact ZAJ);(intro _;dsimp only [ZB,z0,z1]))|(apply ZR;(exact tD);rfl;(exact oD);(exact hD);dsimp only [ZB,z0,z1])|(apply WL.opN;(focus ((first|(apply ZAq (x:=((a[k],b[k]):Vx × Vx));(exact OpD.t rfl);(exact aD))|exact ZBx|exact ZOS|exact ZEu|exact ZC5|exact ZBg|exact ZV|fail);all_goals infer_instance));dsimp only [ZB,z0,z1])|(apply ZC;(exact oD);all_goals (intro h;try exact xD))|(apply ZG;(exact oD);all_goals (intro h;try exact xD))|refine WC.skip ?_|refine WC.ret ?_|refine WC.exit ?_|refine WC.block ?_|refine ThenD.n ?_|refine ThenD.r ?_|refine InBlockD.r ?_));all_goals (first|((repeat clear hK);(repeat clear Kx))))
  all_goals first
   | ((refine ⟨k+1,?_,by first|omega|(simp only;omega),rfl,?_⟩;rotate_left;((try dsimp only [ZK,z0,z1]);repeat (first|exact LeF.nil|refine ZD (k:=?_)));(try dsimp only));exact ⟨by omega,by omega,h3.trans (ZFA (by omega) (by omega) (by assumption))⟩)
   | ((refine ⟨trivial,_,rfl,?_⟩;refine FinD.i ?_);rw [h3,ZDd];repeat' split) <;> first|rfl|contradiction|omega
theorem ZF5 (a b:List Vx):Fn Tryz.prog 80 [dS ZJ a,dS ZJ b] (dI (ZAX a b)):=by
 (refine ZE Tryz.func80 rfl rfl ?_;simp only [Tryz.ntmps80,List.length_cons,List.length_nil,Nat.reduceAdd,Nat.reduceSub,List.replicate_succ,List.replicate_zero,List.cons_append,List.nil_append])
 ((repeat' (first|(apply WL.opN;exact yF;dsimp only [ZB,z0,z1])|refine WL.nil ?_|refine ZA fun Kx hK=>?_|(refine hK _ _ ?_;clear hK)|refine WC.region ?_|(apply WL.opN;(focus ((first|(apply SY.call (ZMi _ _) Tryz.call122;(exact aD))|fail);all_goals infer_instance));dsimp only [ZB,z0,z1])|refine WC.ret ?_));all_goals (first|((repeat clear hK);(repeat clear Kx))))
 all_goals (refine ⟨trivial,_,rfl,?_⟩;exact fD)
theorem ZSb (a b:List Vx):Fn Tryz.prog 36 [dS ZJ a,dS ZJ b] (dB (decide (a=b))):=by
 (refine ZE Tryz.func36 rfl rfl ?_;simp only [Tryz.ntmps36,List.length_cons,List.length_nil,Nat.reduceAdd,Nat.reduceSub,List.replicate_succ,List.replicate_zero,List.cons_append,List.nil_append])
 ((repeat' (first|((first|apply WL.opN|apply WD.opN);exact yF;dsimp only [ZB,z0,z1])|refine WL.nil ?_|refine ZA fun Kx hK=>?_|(refine hK _ _ ?_;clear hK)|refine WC.region ?_|((first|apply WL.opN|apply WD.opN);(focus ((first|exact ZEu|exact ZBg|fail);all_goals infer_instance));dsimp only [ZB,z0,z1])|(apply ZG;(exact oD);all_goals (intro h;try exact xD))|refine WC.skip ?_|refine WC.ret ?_|refine WC.block ?_|refine ThenD.r ?_));all_goals (first|refine WC.id ?_|((repeat clear hK);(repeat clear Kx))))
 ·(refine ⟨trivial,_,rfl,?_⟩;refine FinD.b ?_)
  have:a≠b:=fun e=>h (by rw [e])
  simp [this]
 ·have h0:=h
  (first|refine ZQ (t:=0) rfl ZEX fun hl0=>?_|refine ZQ (t:=0) rfl ZD7 fun hl0=>?_);simp only [maxLen] at hl0
  have h0':a.length=b.length:=by omega
  (refine WC.loopU (X:=Nat) (fun k=>[(13,dI (k:Int)),(4,dA),(5,dA),(14,dA),(15,dA),(16,dA),(17,dA),(18,dA),(19,dA),(20,dA),(21,dA),(22,dA),(23,dA),(24,dA),(25,dA)]) (fun k=>[]) (fun k=>a.length-k) (fun k=>k≤a.length/\a.take k=b.take k) 0 ?start ?frame0 ?objs0 ?round)
  case start=>simp
  case frame0=>((try dsimp only [ZK,z0,z1]);repeat (first|exact LeF.nil|refine ZD (k:=?_)))
  case objs0=>rfl
  case round =>
   rintro k ⟨h1,h2⟩
   dsimp only [ZK,z0,z1]
   ((repeat' (first|((first|apply WL.opN|apply WD.opN);exact yF;dsimp only [ZB,z0,z1])|refine WL.nil ?_|refine WD.nil ?_|refine ZA fun Kx hK=>?_|(refine hK _ _ ?_;clear hK)|(refine Kont.skip ?_;clear hK)|refine WC.region ?_|(apply WC.draw;kernel_rfl;kernel_rfl)|((first|apply WL.opN|apply WD.opN);(focus ((first|exact ZBx|exact ZEu|exact ZC5|exact ZV|fail);all_goals infer_instance));dsimp only [ZB,z0,z1])|(apply ZC;(exact oD);all_goals (intro h;try exact xD))|(apply ZG;(exact oD);all_goals (intro h;try exact xD))|refine WC.skip ?_|refine WC.ret ?_|refine WC.exit ?_|refine WC.block ?_|refine ThenD.n ?_|refine ThenD.r ?_|refine InBlockD.r ?_));all_goals (first|((repeat clear hK);(repeat clear Kx))))
   ·(refine ⟨trivial,_,rfl,?_⟩;refine FinD.b ?_)
    have:a≠b:=fun e=>h (by subst e;rfl)
    simp [this]
   ·(refine ⟨k+1,?_,by first|omega|(simp only;omega),rfl,?_⟩;rotate_left;((try dsimp only [ZK,z0,z1]);repeat (first|exact LeF.nil|refine ZD (k:=?_)));(try dsimp only))
    exact ⟨by omega,by rw [Zc (by omega),Zc (by omega),h2,h]⟩
   ·rw [List.take_of_length_le (by omega),List.take_of_length_le (by omega)] at h2
    (refine ⟨trivial,_,rfl,?_⟩;refine FinD.b ?_)
    simp [h2]
end
section
def ZSL (xs:List Vx):Prop:=xs.Pairwise fun a b=>¬ ZAK b a<0
def ZHb (xs:List Vx) (m:Nat) (zs:List Vx):Prop:=Asc zs/\(∀ v,v∈zs↔v∈xs.take m)/\zs.getLast?=xs[m-1]?
theorem ZO6 {zs:List Vx} {l:Vx} (h:Asc zs) (hl:zs.getLast?=some l):∀ a∈zs,a=l\/ZAK a l<0:=by
 obtain ⟨ys,rfl⟩:=List.getLast?_eq_some_iff.1 hl
 intro a ha
 rcases List.mem_append.1 ha with ha|ha
 ·exact .inr ((List.pairwise_append.1 h).2.2 a ha l (by simp))
 ·exact .inl (by simpa using ha)
theorem ZK3 {xs:List Vx} (h:1≤xs.length):ZHb xs 1 (xs.take 1):=by
 match xs,h with
 | x::l,_=>exact ⟨by simp [Asc],fun v=>Iff.rfl,by simp⟩
theorem ZIF {xs zs:List Vx} {m:Nat} (hs:ZSL xs) (h:ZHb xs m zs) (h1:1≤m) (h2:m<xs.length) (hne:xs[m]≠xs[m-1]'(by omega)):ZHb xs (m+1) (zs++[xs[m]]):=by
 obtain ⟨ha,hm,hl⟩:=h
 rw [List.getElem?_eq_getElem (by omega:m-1<xs.length)] at hl
 have hlt:ZAK (xs[m-1]'(by omega)) xs[m]<0:=by
  have h3:=(List.pairwise_iff_getElem.1 hs) (m-1) m (by omega) h2 (by omega)
  rcases ZBK (xs[m-1]'(by omega)) xs[m] with k|k|k
  ·omega
  ·omega
  ·exact absurd k.2.2.symm hne
 refine ⟨List.pairwise_append.2 ⟨ha,by simp,fun a haz b hb=>?_⟩,fun v=>?_,by simp [h2]⟩
 ·have hb':b=xs[m]:=by simpa using hb
  subst hb'
  rcases ZO6 ha hl a haz with rfl|h4
  ·exact hlt
  ·exact ZAh h4 hlt
 ·rw [List.mem_append,hm,ZA7 h2];simp
theorem ZIG {xs zs:List Vx} {m:Nat} (h:ZHb xs m zs) (h1:1≤m) (h2:m<xs.length) (he:xs[m]=xs[m-1]'(by omega)):ZHb xs (m+1) zs:=by
 obtain ⟨ha,hm,hl⟩:=h
 refine ⟨ha,fun v=>?_,?_⟩
 ·rw [hm,ZA7 h2]
  refine ⟨.inl,fun h=>h.elim id fun h=>?_⟩
  rw [h,he,List.mem_take_iff_getElem]
  exact ⟨m-1,by omega,rfl⟩
 ·rw [hl,Nat.add_sub_cancel,List.getElem?_eq_getElem h2,List.getElem?_eq_getElem (by omega),he]
theorem ZJ3 {xs zs:List Vx} {m:Nat} (h:ZHb xs m zs) (h2:xs.length≤m):Asc zs/\∀ v,v∈zs↔v∈xs:=⟨h.1,fun v=>by rw [h.2.1,List.take_of_length_le h2]⟩
end
section
open Go.RowKit

theorem ZSt {xs:List Vx} {I:Nat->Prop} {w:World} {v:Value} (h:(dS ZJ xs).rd I w v):∃ a m c,v = .slice a m c/\(a=none->m=0):=by
 obtain ⟨ad,cap,rfl,h1,h2,h0,h3⟩:=(h:ArrK 2 RV I w v xs)
 refine ⟨_,_,_,rfl,fun hn=>?_⟩
 rcases Nat.eq_zero_or_pos xs.length with hz|hz
 ·exact hz
 ·obtain ⟨us,b,off,_,_,_,had,_,_⟩:=h3 0 hz
  rw [hn] at had;cases had
theorem ZRF (xs:List Vx) (hl:xs.length≤1000):InC Tryz.prog 47 [dS ZJ xs] [] fun d' hp2=>∃ v,d'=dX v/\(hp2=[Zm v 77 2 RV xs]\/v = .slice none 0 0/\xs=[]/\hp2=[]):=by
 (refine ZHc Tryz.func47 rfl rfl (fun hp gh hgh=>?_);simp only [Tryz.ntmps47,List.length_cons,List.length_nil,Nat.reduceAdd,Nat.reduceSub,List.replicate_succ,List.replicate_zero,List.cons_append,List.nil_append])
 ((repeat' (first |  (refine ZGe 4 rfl fun b hb=>?_;dsimp only [z0,z1])|(apply WL.opN;exact yF;dsimp only [ZB,z0,z1])|refine WL.nil ?_|refine ZA fun Kx hK=>?_|(refine hK _ _ ?_;clear hK)|refine WC.region ?_ |  (apply ZC7 elV RV (by decide);(intro _;dsimp only [ZB,z0,z1]);all_goals (try infer_instance))|((first|apply WL.appK|apply WL.app1);(exact eD);exact OpD.t rfl;(exact oD);decide;(exact lD);(intro _;dsimp only [ZB,z0,z1]);all_goals (try infer_instance))|(apply WL.opN;(focus ((first|(apply ZGT;exact OpD.t rfl;(exact fun _ _ _ h=>ZSt h);exact ZK8;exact ZMx)|fail);all_goals infer_instance));dsimp only [ZB,z0,z1])|(apply WC.cond;(exact oD);all_goals (intro h;try exact xD))|refine WC.skip ?_|refine WC.ret ?_|refine ThenD.r ?_));all_goals (first|((repeat clear hK);(repeat clear Kx))))
 ·exact ⟨trivial,_,[],rfl,rfl,_,rfl,.inr ⟨rfl,hb h,rfl⟩⟩
 ·exact ⟨trivial,_,[_],rfl,rfl,_,rfl,.inl (by rw [List.nil_append])⟩
theorem ZI0 {P:Program} {ops:Array Oper} {hp:List HObj} {fr:List Dat} {Q:Zu} {rest:List Oper} {b cap N k:Nat} {e:TypeId} {xs:List Vx} (hk:k≤xs.length) (h:WL P ops Q rest fr (hV b k cap e (xs.take k)::hp)):WL P ops Q rest fr (hV b N cap e xs::hp):=WL.of fun P0 B w0 w a hh hf=>by
 obtain ⟨hN,tl,hg,hc1,hc2,hc3⟩:=ZDL.1 (hh.ok (hV b N cap e xs) (by simp))
 have hgr:w.grownBy w (hV b N cap e xs).blk:=⟨rfl,rfl,rfl,Nat.le_refl _,fun _ _ _=>rfl⟩
 have e1:Zg xs++tl=Zg (xs.take k)++(Zg (xs.drop k)++tl):=by rw [<- List.append_assoc,<- ZA5,List.take_append_drop]
 have hok:(hV b k cap e (xs.take k)).ok (fun j=>Imm P0 B (hV b N cap e xs::hp) j/\j<w.heap.size) w :=
  ZDL.2 ⟨by simp;omega,Zg (xs.drop k)++tl,by rw [<- e1];exact hg,by simp;omega,hc2,by rw [<- e1];exact hc3⟩
 exact h.on (hh.write hgr (.inl rfl) hok) (hf.mono fun _ _ hd=>ZT (o':=hV b k cap e (xs.take k)) hgr (.inl rfl) hd)
theorem ZOw {P:Program} {ops:Array Oper} {hp:List HObj} {fr:List Dat} {Q:Zu} {rest:List Oper} {dst:Option Tmp} {ty:TypeId} {ps:String} {af:Array Edge} {b cap N l bytes:Nat} {e t:TypeId} {xs:List Vx} {z:Value} {ag:Bool} {x y:Operand} {j:Int}
  (E:ElT P t e 2 z bytes ag) (hx:OpD fr x (dX (.slice (some ⟨b,0,none⟩) N cap))) (hy:OpD fr y (dI j)) (hj:j=(l:Int)) (hl:l≤N) (hm:N≤cap) (h0:0<cap) (hk:l≤xs.length)
  (h:WL P ops Q rest (ZB fr dst (dX (.slice (some ⟨b,0,none⟩) l cap))) (hV b l cap e (xs.take l)::hp)):WL P ops Q (⟨dst,.slice t x none (some y) none,ty,ps,af,none⟩::rest) fr (hV b N cap e xs::hp) :=
 WL.op rfl (SY.uptoO E hx hy hj hl hm h0) (ZI0 hk h)
set_option maxHeartbeats 4000000 in
theorem ZH8 (xs:List Vx) (v:Value) (hs:ZSL xs) (hl:xs.length≤1000):InC Tryz.prog 150 [dX v] [Zm v 77 2 RV xs] fun d' hp2=>∃ v zs,(Asc zs/\∀ u,u∈zs↔u∈xs)/\d'=dX v/\hp2=[Zm v 77 2 RV zs]:=by
 (refine ZHc Tryz.func150 rfl rfl (fun hp gh hgh=>?_);simp only [Tryz.ntmps150,List.length_cons,List.length_nil,Nat.reduceAdd,Nat.reduceSub,List.replicate_succ,List.replicate_zero,List.cons_append,List.nil_append])
 rcases Nat.lt_or_ge xs.length 2 with hx|hx
 ·have ha:Asc xs:=by
   match xs,hx with
   | [],_=>simp [Asc]
   | [x],_=>simp [Asc]
   | x::y::l,hx=>simp at hx;omega
  ((repeat' (first|((first|apply WL.opN|apply WD.opN);exact yF;dsimp only [ZB,z0,z1])|refine WL.nil ?_|refine ZA fun Kx hK=>?_|(refine hK _ _ ?_;clear hK)|refine WC.region ?_|((first|apply WL.opN|apply WD.opN);(focus ((first|exact ZBx|exact ZBg|fail);all_goals infer_instance));dsimp only [ZB,z0,z1])|(apply ZC;(exact oD);all_goals (intro h;try exact xD))|refine WC.ret ?_|refine ThenD.r ?_));all_goals (first|((repeat clear hK);(repeat clear Kx))))
  exact ⟨trivial,_,[_],rfl,rfl,_,xs,⟨ha,fun _=>Iff.rfl⟩,rfl,rfl⟩
 refine ZOk (by omega) fun b cap hv hc1 hc2=>?_
 subst hv
 (repeat' (first|((first|apply WL.opN|apply WD.opN);exact yF;dsimp only [ZB,z0,z1])|refine WL.nil ?_|refine ZA fun Kx hK=>?_|(refine hK _ _ ?_;clear hK)|refine WC.region ?_|((first|apply WL.opN|apply WD.opN);(focus ((first|exact ZBx|exact ZBg|fail);all_goals infer_instance));dsimp only [ZB,z0,z1])|(apply ZC;(exact oD);all_goals (intro h;try exact xD))|refine WC.skip ?_|refine WC.block ?_))
 simp only [maxLen] at hc2
 (refine WC.loopU (X:=Nat) (fun k=>[(3,dI (k:Int)),(2,dA),(4,dA),(5,dA),(10,dA),(11,dA),(12,dA),(13,dA),(14,dA),(15,dA),(16,dA),(17,dA),(18,dA),(19,dA),(20,dA),(21,dA),(22,dA),(23,dA),(24,dA),(25,dA),(26,dA),(27,dA),(28,dA),(29,dA),(30,dA),(31,dA),(32,dA),(33,dA),(34,dA),(35,dA),(36,dA),(37,dA),(38,dA),(39,dA),(40,dA),(41,dA),(42,dA),(43,dA),(44,dA),(45,dA),(46,dA),(47,dA),(48,dA),(49,dA),(50,dA),(51,dA),(52,dA),(53,dA),(54,dA),(55,dA),(56,dA),(57,dA),(58,dA),(59,dA)]) (fun k=>(hV b xs.length cap 77 xs::gh::hp)) (fun k=>xs.length-k) (fun k=>1≤k/\k≤xs.length/\ZHb xs k (xs.take k)) 1 ?start ?frame0 ?objs0 ?round)
 case start=>exact ⟨Nat.le_refl _,by omega,ZK3 (by omega)⟩
 case frame0=>((try dsimp only [ZK,z0,z1]);repeat (first|exact LeF.nil|refine ZD (k:=?_)))
 case objs0=>rfl
 case round =>
  rintro k ⟨h1,h2,h3⟩
  dsimp only [ZK,z0,z1]
  ((repeat' (first|((first|apply WL.opN|apply WD.opN);exact yF;dsimp only [ZB,z0,z1])|refine WL.nil ?_|refine WD.nil ?_|refine ZA fun Kx hK=>?_|(refine hK _ _ ?_;clear hK)|(refine Kont.skip ?_;clear hK)|refine WC.region ?_|(apply WC.draw;kernel_rfl;kernel_rfl)|((first|apply WL.opN|apply WD.opN);(focus ((first|(apply ZHe (k:=k) elV;exact OpD.t rfl;exact OpD.t rfl;rfl;omega)|(apply ZHe (k:=k-1) elV;exact OpD.t rfl;exact OpD.t rfl;omega;omega)|(apply ZEh (k:=k) tyV;exact OpD.t rfl;exact .head _;omega;omega)|(apply ZEh (k:=k-1) tyV;exact OpD.t rfl;exact .head _;omega;omega)|(apply SY.fromO (l:=k) elV;exact OpD.t rfl;exact OpD.t rfl;rfl;omega;omega)|exact ZBx|exact ZOR|exact ZC5|exact ZR5|exact ZBg|fail);all_goals infer_instance));dsimp only [ZB,z0,z1])|(apply ZC;(exact oD);all_goals (intro h;try exact xD))|refine WC.skip ?_|refine WC.ret ?_|refine WC.exit ?_|refine WC.block ?_|refine ThenD.n ?_));all_goals (first|refine WC.id ?_|((repeat clear hK);(repeat clear Kx))))
  ·have hk:k<xs.length:=by omega
   have hg:=ZIG h3 h1 hk h
   (refine WC.loopU (X:=Nat × Nat × List Vx) (fun x=>[(3,dI (x.2.1:Int)),(5,dI (x.1:Int)),(29,dA),(30,dA),(31,dA),(32,dA),(33,dA),(34,dA),(35,dA),(36,dA),(37,dA),(38,dA),(39,dA),(40,dA),(41,dA),(42,dA),(43,dA),(44,dA),(45,dA),(46,dA),(47,dA),(48,dA),(49,dA),(50,dA),(51,dA),(52,dA),(53,dA)]) (fun x=>(hV b xs.length cap 77 x.2.2::gh::hp)) (fun x=>xs.length-k-x.1) (fun x=>1≤x.1/\k+x.1≤xs.length/\x.2.1+1≤k+x.1/\x.2.2.length=xs.length/\ZHb xs (k+x.1) (x.2.2.take x.2.1)/\x.2.2.drop (k+x.1-1)=xs.drop (k+x.1-1)) (1,k,xs) ?start ?frame0 ?objs0 ?round)
   case start=>exact ⟨Nat.le_refl _,by omega,Nat.le_refl _,rfl,hg,rfl⟩
   case frame0=>((try dsimp only [ZK,z0,z1]);repeat (first|exact LeF.nil|refine ZD (k:=?_)))
   case objs0=>rfl
   case round =>
    rintro ⟨m,i,ys⟩ ⟨q1,q2,q3,q4,q5,q6⟩
    dsimp only [ZK,z0,z1]
    simp only at q1 q2 q3 q4 q5 q6
    have hget:∀ (j:Nat) (hj:k+m-1≤j) (hj':j<xs.length),ys[j]'(by omega)=xs[j]:=fun j hj hj'=>by
     have e1:=congrArg (fun l=>l[j-(k+m-1)]?) q6
     simp only [List.getElem?_drop] at e1
     rw [show k+m-1+(j-(k+m-1))=j by omega,List.getElem?_eq_getElem (by omega),List.getElem?_eq_getElem hj'] at e1
     exact Option.some.inj e1
    ((repeat' (first|((first|apply WL.opN|apply WD.opN);exact yF;dsimp only [ZB,z0,z1])|refine WL.nil ?_|refine WD.nil ?_|refine ZA fun Kx hK=>?_|(refine hK _ _ ?_;clear hK)|(refine Kont.skip ?_;clear hK)|refine WC.region ?_|(apply WC.draw;kernel_rfl;kernel_rfl) |  (apply ZMI (k:=i) tyV;exact OpD.t rfl;exact OpD.t rfl;omega;omega;dsimp only [ZB,z0,z1]) |  (apply ZL8 (k:=i) (n:=xs.length-i) Tryz.underlying22 Tryz.zeroValue77;exact OpD.t rfl;omega;omega;omega;dsimp only [ZB,z0,z1]) |  (apply ZOw (l:=i) elV;exact OpD.t rfl;exact OpD.t rfl;rfl;omega;omega;omega;(simp;omega);dsimp only [ZB,z0,z1])|((first|apply WL.opN|apply WD.opN);(focus ((first|(apply ZHe (k:=m) elV;exact OpD.t rfl;exact OpD.t rfl;rfl;omega)|(apply ZHe (k:=m-1) elV;exact OpD.t rfl;exact OpD.t rfl;omega;omega)|(apply ZHe (k:=i) elV;exact OpD.t rfl;exact OpD.t rfl;rfl;omega)|(apply ZEh (k:=k+m) tyV;exact OpD.t rfl;exact .head _;omega;omega)|(apply ZEh (k:=k+m-1) tyV;exact OpD.t rfl;exact .head _;omega;omega)|(apply SY.fromO (l:=i) elV;exact OpD.t rfl;exact OpD.t rfl;rfl;omega;omega)|exact ZBx|exact ZEu|exact ZC5|exact ZR5|exact ZBg|fail);all_goals infer_instance));dsimp only [ZB,z0,z1])|(apply ZC;(exact oD);all_goals (intro h;try exact xD))|(apply ZG;(exact oD);all_goals (intro h;try exact xD))|refine WC.skip ?_|refine WC.ret ?_|refine WC.exit ?_|refine WC.block ?_|refine ThenD.n ?_|refine ThenD.r ?_|refine InBlockD.r ?_));all_goals (first|((repeat clear hK);(repeat clear Kx))))
    ·have hkm:k+m<xs.length:=by omega
     have e1:ys[k+m]'(by omega)=xs[k+m]:=hget _ (by omega) hkm
     have e2:ys[k+m-1]'(by omega)=xs[k+m-1]:=hget _ (by omega) (by omega)
     rw [e1,e2] at h
     rw [e1]
     (refine ⟨(m+1,i+1,ys.set i xs[k+m]),?_,by first|omega|(simp only;omega),rfl,?_⟩;rotate_left;((try dsimp only [ZK,z0,z1]);repeat (first|exact LeF.nil|refine ZD (k:=?_)));(try dsimp only))
     refine ⟨by omega,by omega,by omega,by simpa using q4,?_,?_⟩
     ·have:=ZIF hs q5 (by omega) hkm h
      rw [Nat.add_assoc] at this
      have e3:(ys.set i xs[k+m]).take (i+1)=ys.take i++[xs[k+m]]:=by
       rw [Zc (by simp;omega),List.take_set_of_le (by omega)]
       simp
      rw [e3];exact this
     ·rw [show k+(m+1)-1=(k+m-1)+1 by omega,<- List.drop_drop,<- List.drop_drop (l:=xs)]
      have e4:(ys.set i xs[k+m]).drop (k+m-1+1)=ys.drop (k+m-1+1):=by rw [List.drop_set_of_lt (by omega)]
      first
       | rw [List.drop_drop,List.drop_drop,e4,<- List.drop_drop,<- List.drop_drop,q6]
       | (simp only [List.drop_drop] at *;rw [e4];have:=congrArg (List.drop 1) q6;simpa [List.drop_drop] using this)
    ·have hkm:k+m<xs.length:=by omega
     have e1:ys[k+m]'(by omega)=xs[k+m]:=hget _ (by omega) hkm
     have e2:ys[k+m-1]'(by omega)=xs[k+m-1]:=hget _ (by omega) (by omega)
     rw [e1,e2] at h
     (refine ⟨(m+1,i,ys),?_,by first|omega|(simp only;omega),rfl,?_⟩;rotate_left;((try dsimp only [ZK,z0,z1]);repeat (first|exact LeF.nil|refine ZD (k:=?_)));(try dsimp only))
     refine ⟨by omega,by omega,by omega,q4,?_,?_⟩
     ·have:=ZIG q5 (by omega) hkm h
      rw [Nat.add_assoc] at this
      exact this
     ·have:=congrArg (List.drop 1) q6
      rw [List.drop_drop,List.drop_drop] at this
      rw [show k+(m+1)-1=k+m-1+1 by omega]
      exact this
    ·have e1:(ys.take i++List.replicate (xs.length-i) ((0,0):Vx)).take i=ys.take i:=by
      rw [List.take_left' (by simp;omega)]
     rw [e1]
     exact ⟨trivial,_,[_],rfl,rfl,_,_,ZJ3 q5 (by omega),rfl,rfl⟩
  ·(refine ⟨k+1,?_,by first|omega|(simp only;omega),rfl,?_⟩;rotate_left;((try dsimp only [ZK,z0,z1]);repeat (first|exact LeF.nil|refine ZD (k:=?_)));(try dsimp only))
   refine ⟨by omega,by omega,?_⟩
   rw [Zc (by omega)]
   exact ZIF hs h3 h1 (by omega) h
  ·have e1:xs.take k=xs:=List.take_of_length_le (by omega)
   rw [e1] at h3
   exact ⟨trivial,_,[_],rfl,rfl,_,xs,ZJ3 h3 (by omega),rfl,rfl⟩

end
end Go.Proofs.YtofkoleingbbpaaGreatDoor
