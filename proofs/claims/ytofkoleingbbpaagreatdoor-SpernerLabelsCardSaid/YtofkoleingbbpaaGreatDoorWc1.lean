/- Part 1: walks by contracts, and plain laws. -/
import Derived.Test.YtofkoleingbbpaaGreatDoorWa16
set_option linter.unusedVariables false
set_option linter.unusedSimpArgs false
set_option linter.unusedSectionVars false
set_option maxRecDepth 100000
set_option maxHeartbeats 4000000
namespace Go.Proofs.YtofkoleingbbpaaGreatDoor
section
open Go.RowKit

section
variable {P:Program} {ops:Array Oper} {hp:List HObj} {o:Oper} {fr:List Dat} {d:Dat} {Q:Z6} {rest:List Oper}
variable {dst:Option Tmp} {ty:TypeId} {ps:String} {af:Array Edge} {g:Option (Nat × Bool)}

section
variable {p:Prop} {_ip:Decidable p} {b:Bool} {gi:Nat} {pol:Bool} {t:Tmp} {K:List Dat->Prop}
theorem ZS (hg:o.guard=some (gi,pol)) (ht:(ops[gi]?).bind (·.dst)=some t) (hf:fr[t]?=some (dB (!decide p))) (h1:¬ p->WD P ops hp K (o::rest) (fr.set t (dB true))) (h2:p->WD P ops hp K (o::rest) (fr.set t (dB false))):WD P ops hp K (o::rest) fr :=
 ZR hg ht hf (fun h=>h1 (by simpa using h)) (fun h=>h2 (by simpa using h))
end

theorem ZCQ {α:Type} {R:Rel α} {_gR:Good R} {x y:α} (h:x=y):FinD hp (dS R x) (dS R y):=FinD.le (ZIK (by rw [h]))
end

end
section
open Go.RowKit

section
variable {P:Program} {ops:Array Oper} {hp:List HObj} {o:Oper} {fr:List Dat} {d:Dat} {Q:Z6} {rest:List Oper}
variable {dst:Option Tmp} {ty:TypeId} {ps:String} {af:Array Edge} {g:Option (Nat × Bool)}
variable {t e:TypeId} {n bytes:Nat} {z:Value} {ag:Bool}

theorem ZEE {c:Code} {α:Type} {R:Rel α} {_gR:Good R} {v:Value} {xs:List α} {s:Tmp} (hs:fr[s]?=some (dX v)) (h:WC P Q c (fr.set s (dS (ArrK n R) xs)) hp):WC P Q c fr (Z0 v e n R xs::hp):=WC.of fun _ _ _ _ _ hh hf=>h.on hh.drop (ZCJ hf hs (d:=dS (ArrK n R) xs) (ZCz hh))

end

end
section

theorem ZC2 (s l:List Vx) (k:Nat) (h:k<l.length):ZBH s (l.take (k+1))=ZCm (ZBH s (l.take k)) l[k]:=by rw [Zd h];unfold ZBH;rw [List.foldl_append];rfl
theorem ZCH:∀ (s:List Vx) (v:Vx),(ZB6 s v).length=s.length+1
 | [],_=>rfl
 | u::s,v=>by
  unfold ZB6
  split
  ·simp
  ·simp [ZCH s v]
theorem ZES (s:List Vx) (v:Vx):s.length≤(ZCm s v).length/\(ZCm s v).length≤s.length+1:=by
 unfold ZCm
 split
 ·omega
 ·rw [ZCH];omega
theorem ZA3:∀ (l s:List Vx),s.length≤(ZBH s l).length/\(ZBH s l).length≤s.length+l.length
 | [],s=>by simp [ZBH]
 | v::l,s=>by
  have h1:=ZES s v
  have h2:=ZA3 l (ZCm s v)
  show _≤(ZBH (ZCm s v) l).length/\(ZBH (ZCm s v) l).length≤_
  simp only [List.length_cons]
  omega
theorem ZBt:∀ (s:List Vx) (v:Vx) (k:Nat),k≤s.length->(∀ x∈s.take k,¬ ZAe v x<0)->ZB6 s v=s.take k++ZB6 (s.drop k) v
 | _,_,0,_,_=>rfl
 | [],_,k+1,h,_=>by simp at h
 | u::s,v,k+1,h,hx=>by
  have h1:=hx u (by simp)
  have h2:ZB6 (u::s) v=u::ZB6 s v:=by rw [ZB6,if_neg h1]
  rw [h2,ZBt s v k (by simpa using h) (fun x hm=>hx x (by simp [hm]))]
  simp

end
section
open Go.RowKit

theorem ZEe (x:Vx):Fn Tryz.prog 41 [dS RV x] (dB (ZCL x)):=by
 (refine ZE Tryz.func41 rfl rfl ?_;simp only [Tryz.ntmps41,List.length_cons,List.length_nil,Nat.reduceAdd,Nat.reduceSub,List.replicate_succ,List.replicate_zero,List.cons_append,List.nil_append])
 ((repeat' (first|(apply WL.opN;exact yF;dsimp only [ZC,z0,z1])|refine WL.nil ?_|refine ZA fun Kx hK=>?_|(refine hK _ _ ?_;clear hK)|refine WC.region ?_|(apply ZF;(focus (first|exact wN|(apply SYG.yes;(exact wY);((first|exact ZA1|exact ZMb|exact ZJX|exact ZB4|exact Zy|exact ZBT|exact ZDO|fail);all_goals infer_instance))));dsimp only [ZC,z0,z1])|((first|refine ZJ rfl rfl rfl (fun h=>?_) (fun h=>?_)|refine ZI rfl rfl rfl (fun h=>?_) (fun h=>?_)|refine ZH rfl rfl rfl (fun h=>?_) (fun h=>?_)) <;> (first|(exfalso;first|omega|contradiction)|(dsimp only [z0,z1])))|refine WC.ret ?_));all_goals (first|((repeat clear hK);(repeat clear Kx))))
 all_goals ((refine ⟨trivial,_,rfl,?_⟩;refine FinD.b ?_);unfold ZCL;simp [*])
theorem ZGr (s:List Vx) (v:Vx):Fn Tryz.prog 55 [dS ZN s,dS RV v] (dB (decide (v∈s))):=by
 (refine ZE Tryz.func55 rfl rfl ?_;simp only [Tryz.ntmps55,List.length_cons,List.length_nil,Nat.reduceAdd,Nat.reduceSub,List.replicate_succ,List.replicate_zero,List.cons_append,List.nil_append])
 (repeat' (first|((first|apply WL.opN|apply WD.opN);exact yF;dsimp only [ZC,z0,z1])|refine WL.nil ?_|refine ZA fun Kx hK=>?_|(refine hK _ _ ?_;clear hK)|refine WC.region ?_|((first|apply WL.opN|apply WD.opN);(focus ((first|exact ZDO|fail);all_goals infer_instance));dsimp only [ZC,z0,z1])|refine WC.block ?_))
 (first|refine ZU (t:=0) rfl ZDX fun hl0=>?_|refine ZU (t:=0) rfl ZDE fun hl0=>?_);simp only [maxLen] at hl0
 (refine WC.loopU (X:=Nat) (fun k=>[(5,dI (k:Int)),(4,dA),(6,dA),(7,dA),(8,dA),(9,dA),(10,dA),(11,dA),(12,dA),(13,dA),(14,dA),(15,dA),(16,dA),(17,dA)]) (fun k=>[]) (fun k=>s.length-k) (fun k=>k≤s.length/\v∉s.take k) 0 ?start ?frame0 ?objs0 ?round)
 case start=>simp
 case frame0=>((try dsimp only [ZK,z0,z1]);repeat (first|exact LeF.nil|refine ZD (k:=?_)))
 case objs0=>rfl
 case round =>
  rintro k ⟨h1,h2⟩
  dsimp only [ZK,z0,z1]
  ((repeat' (first|((first|apply WL.opN|apply WD.opN);exact yF;dsimp only [ZC,z0,z1])|refine WL.nil ?_|refine WD.nil ?_|refine ZA fun Kx hK=>?_|(refine hK _ _ ?_;clear hK)|(refine Kont.skip ?_;clear hK)|refine WC.region ?_|(apply WC.draw;kernel_rfl;kernel_rfl)|((first|apply WL.opN|apply WD.opN);(focus ((first|exact ZA1|exact ZHL|exact ZBN|exact ZAk|exact ZV|fail);all_goals infer_instance));dsimp only [ZC,z0,z1])|(apply ZB;(exact oD);all_goals (intro h;try exact xD))|refine WC.skip ?_|refine WC.ret ?_|refine WC.exit ?_|refine WC.block ?_|refine ThenD.n ?_|refine ThenD.r ?_|refine InBlockD.r ?_));all_goals (first|((repeat clear hK);(repeat clear Kx))))
  ·(refine ⟨trivial,_,rfl,?_⟩;refine FinD.b ?_)
   rename_i h
   rw [<- h];simp
  ·(refine ⟨k+1,?_,by first|omega|(simp only;omega),rfl,?_⟩;rotate_left;((try dsimp only [ZK,z0,z1]);repeat (first|exact LeF.nil|refine ZD (k:=?_)));(try dsimp only))
   rename_i h
   exact ⟨by omega,fun hm=>by rcases (Zs (by omega)).1 hm with h'|h';exact h2 h';exact h h'.symm⟩
  ·(refine ⟨trivial,_,rfl,?_⟩;refine FinD.b ?_)
   rw [List.take_of_length_le (by omega)] at h2
   simp [h2]
set_option maxHeartbeats 4000000 in
theorem ZIx (s:List Vx):Fn Tryz.prog 53 [dS ZN s] (dI (Z5 s)):=by
 (refine ZE Tryz.func53 rfl rfl ?_;simp only [Tryz.ntmps53,List.length_cons,List.length_nil,Nat.reduceAdd,Nat.reduceSub,List.replicate_succ,List.replicate_zero,List.cons_append,List.nil_append])
 ((repeat' (first|((first|apply WL.opN|apply WD.opN);exact yF;dsimp only [ZC,z0,z1])|refine WL.nil ?_|refine ZA fun Kx hK=>?_|(refine hK _ _ ?_;clear hK)|refine WC.region ?_|((first|apply ZF|apply WD.op);(focus (first|exact wN|(apply SYG.yes;(exact wY);((first|exact ZEi|exact ZHL|exact ZAk|fail);all_goals infer_instance))));dsimp only [ZC,z0,z1])|(apply ZB;(exact oD);all_goals (intro h;try exact xD))|refine WC.skip ?_|refine WC.ret ?_|refine WC.block ?_|refine ThenD.r ?_|refine InBlockD.r ?_));all_goals (first|refine WC.id ?_|((repeat clear hK);(repeat clear Kx))))
 ·(refine ⟨trivial,_,rfl,?_⟩;refine FinD.i ?_)
  unfold Z5;rw [if_pos (by omega)]
 ·(refine ⟨trivial,_,rfl,?_⟩;refine FinD.i ?_)
  unfold Z5;rw [if_neg (by omega),if_pos (by omega)]
 ·rename_i h1 h2
  have hs:Z5 s=ZKo none s:=by unfold Z5;rw [if_neg (by omega),if_neg (by omega)]
  (refine WC.loopU (X:=Nat) (fun k=>[(3,dI (k:Int)),(2,dA),(12,dA),(13,dA),(14,dA),(15,dA),(16,dA),(17,dA),(18,dA),(19,dA),(20,dA),(21,dA),(22,dA),(23,dA),(24,dA),(25,dA),(26,dA),(27,dA),(28,dA),(29,dA),(30,dA),(31,dA),(32,dA),(33,dA),(34,dA),(35,dA),(36,dA),(37,dA),(38,dA)]) (fun k=>[]) (fun k=>s.length-k) (fun k=>k≤s.length/\Z5 s=ZKo (s.take k).getLast? (s.drop k)) 0 ?start ?frame0 ?objs0 ?round)
  case start=>exact ⟨Nat.zero_le _,by rw [hs];rfl⟩
  case frame0=>((try dsimp only [ZK,z0,z1]);repeat (first|exact LeF.nil|refine ZD (k:=?_)))
  case objs0=>rfl
  case round =>
   rintro k ⟨h3,h4⟩
   dsimp only [ZK,z0,z1]
   ((repeat' (first|((first|apply WL.opN|apply WD.opN);exact yF;dsimp only [ZC,z0,z1])|refine WL.nil ?_|refine WD.nil ?_|refine ZA fun Kx hK=>?_|(refine hK _ _ ?_;clear hK)|(refine Kont.skip ?_;clear hK)|refine WC.region ?_|(apply WC.draw;kernel_rfl;kernel_rfl)|((first|apply ZF|apply WD.op);(focus (first|exact wN|(apply SYG.yes;(exact wY);((first|(apply SY.call (ZDu _ _) Tryz.call42;(exact aD))|(apply SY.call (ZEe _) Tryz.call41;(exact aD))|(apply ZFo elV (OpD.t rfl) (OpD.t rfl) (k-1);omega;omega)|exact ZB5|exact ZA1|exact ZEi|exact ZJX|exact ZHk|exact ZBN|exact ZKn|exact ZB4|exact ZAk|exact ZV|exact ZBT|fail);all_goals infer_instance))));dsimp only [ZC,z0,z1])|((first|refine ZJ rfl rfl rfl (fun h=>?_) (fun h=>?_)|refine ZI rfl rfl rfl (fun h=>?_) (fun h=>?_)|refine ZH rfl rfl rfl (fun h=>?_) (fun h=>?_)|refine ZT rfl rfl rfl (fun h=>?_) (fun h=>?_)|refine ZS rfl rfl rfl (fun h=>?_) (fun h=>?_)|refine ZR rfl rfl rfl (fun h=>?_) (fun h=>?_)) <;> (first|(exfalso;first|omega|contradiction)|(dsimp only [z0,z1])))|(apply ZQ;(exact oD);(with_reducible rfl))|(apply ZB;(exact oD);all_goals (intro h;try exact xD))|(apply ZM;(exact oD);all_goals (intro h;try exact xD))|refine WC.skip ?_|refine WC.ret ?_|refine WC.exit ?_|refine WC.block ?_|refine ThenD.n ?_|refine ThenD.r ?_|refine InBlockD.r ?_));all_goals (first|((repeat clear hK);(repeat clear Kx))))
   all_goals try (rw [ZEr s k (by omega)] at h4)
   ·(refine ⟨trivial,_,rfl,?_⟩;refine FinD.i ?_)
    rw [h4,if_pos h]
   ·(refine ⟨trivial,_,rfl,?_⟩;refine FinD.i ?_)
    have h5:ZCL s[k]=true:=by assumption
    rw [h4,if_neg (by simp [h5]),ZBk _ _ (by omega) (by omega),if_pos (by simpa using h)]
   ·(refine ⟨k+1,?_,by first|omega|(simp only;omega),rfl,?_⟩;rotate_left;((try dsimp only [ZK,z0,z1]);repeat (first|exact LeF.nil|refine ZD (k:=?_)));(try dsimp only))
    refine ⟨by omega,?_⟩
    have h5:ZCL s[k]=true:=by assumption
    rw [h4,if_neg (by simp [h5]),ZBk _ _ (by omega) (by omega),if_neg (by simpa using h)]
   ·(refine ⟨k+1,?_,by first|omega|(simp only;omega),rfl,?_⟩;rotate_left;((try dsimp only [ZK,z0,z1]);repeat (first|exact LeF.nil|refine ZD (k:=?_)));(try dsimp only))
    refine ⟨by omega,?_⟩
    have h5:ZCL s[k]=true:=by assumption
    have h0:(s.take k).getLast?=none:=by
     have:k=0:=by omega
     rw [this];rfl
    rw [h4,if_neg (by simp [h5]),h0]
    rfl
   ·(refine ⟨trivial,_,rfl,?_⟩;refine FinD.i ?_)
    rw [h4,List.drop_of_length_le (by omega)]
    rfl
end
section
open Go.RowKit

theorem ZFv {s:List Vx} {v:Vx} {k:Nat} (h:k<s.length) (hx:∀ y∈s.take k,¬ ZAe v y<0) (hlt:ZAe v s[k]<0):s.take k++v::s.drop k=ZB6 s v:=by
 rw [ZBt s v k (by omega) hx,Zu h]
 unfold ZB6
 rw [if_pos hlt]
theorem ZEO {s:List Vx} {v:Vx} (hx:∀ y∈s,¬ ZAe v y<0):s++[v]=ZB6 s v:=by
 rw [ZBt s v s.length (Nat.le_refl _) (by rw [List.take_of_length_le (Nat.le_refl _)];exact hx)]
 simp [ZB6]
set_option maxHeartbeats 4000000 in
theorem ZM5 (s:List Vx) (v:Vx) (hs:s.length≤1000):Fn Tryz.prog 146 [dS ZN s,dS RV v] (dS ZN (ZCm s v)):=by
 (refine ZE Tryz.func146 rfl rfl ?_;simp only [Tryz.ntmps146,List.length_cons,List.length_nil,Nat.reduceAdd,Nat.reduceSub,List.replicate_succ,List.replicate_zero,List.cons_append,List.nil_append])
 ((repeat' (first|((first|apply WL.opN|apply WD.opN);exact yF;dsimp only [ZC,z0,z1])|refine WL.nil ?_|refine ZA fun Kx hK=>?_|(refine hK _ _ ?_;clear hK)|refine WC.region ?_|((first|apply ZF|apply WD.op);(focus (first|exact wN|(apply SYG.yes;(exact wY);((first|(apply SY.call (ZGr _ _) Tryz.call55;(exact aD))|exact ZDO|fail);all_goals infer_instance))));dsimp only [ZC,z0,z1])|(apply ZB;(exact oD);all_goals (intro h;try exact xD))|refine WC.skip ?_|refine WC.ret ?_|refine WC.block ?_|refine ThenD.r ?_));all_goals (first|refine WC.id ?_|((repeat clear hK);(repeat clear Kx))))
 ·(refine ⟨trivial,_,rfl,?_⟩;refine ZCQ ?_)
  unfold ZCm;rw [if_pos h]
 ·have hp:ZCm s v=ZB6 s v:=by unfold ZCm;rw [if_neg h]
  refine ZBy 77 2 (by decide) RV ?_
  (refine WC.loopU (X:=Nat × Bool × Value × List Vx) (fun x=>[(5,dX x.2.2.1),(6,dB x.2.1),(7,dI (x.1:Int)),(12,dA),(13,dA),(14,dA),(15,dA),(16,dA),(17,dA),(18,dA),(19,dA),(20,dA),(21,dA),(22,dA),(23,dA),(24,dA),(25,dA),(26,dA),(27,dA),(28,dA),(29,dA),(30,dA),(31,dA),(32,dA),(33,dA),(34,dA),(35,dA),(36,dA),(37,dA),(38,dA),(39,dA)]) (fun x=>[Z0 x.2.2.1 77 2 RV x.2.2.2]) (fun x=>s.length-x.1) (fun x=>x.1≤s.length/\x.2.2.2.length≤x.1+1/\(x.2.1=false->x.2.2.2=s.take x.1/\∀ y∈s.take x.1,¬ ZAe v y<0)/\(x.2.1=true->x.2.2.2++s.drop x.1=ZB6 s v)) (0,false,.slice none 0 0,[]) ?start ?frame0 ?objs0 ?round)
  case start=>simp
  case frame0=>((try dsimp only [ZK,z0,z1]);repeat (first|exact LeF.nil|refine ZD (k:=?_)))
  case objs0=>rfl
  case round =>
   rintro ⟨k,dn,u,o⟩ ⟨h1,h2,h3,h4⟩
   dsimp only [ZK,z0,z1]
   simp only at h1 h2 h3 h4
   cases dn with
   | true =>
    ((repeat' (first|((first|apply WL.opN|apply WD.opN);exact yF;dsimp only [ZC,z0,z1])|refine WL.nil ?_|refine WD.nil ?_|refine ZA fun Kx hK=>?_|(refine hK _ _ ?_;clear hK)|(refine Kont.skip ?_;clear hK)|refine WC.region ?_|(apply WC.draw;kernel_rfl;kernel_rfl)|((first|apply Zv|apply Zm);(exact eD);exact OpD.t rfl;(exact oD);(intro _;exact hD);(exact (by simp));(exact (by simp));(first|exact ⟨by decide,by decide⟩|skip);decide;(exact lD);(intro _;dsimp only [ZC,z0,z1]);all_goals (try infer_instance))|((first|apply ZF|apply WD.op);(focus (first|exact wN|(apply SYG.yes;(exact wY);((first|exact ZA1|exact ZHk|exact ZBN|exact ZAk|exact ZV|exact ZBT|fail);all_goals infer_instance))));dsimp only [ZC,z0,z1])|((first|refine ZJ rfl rfl rfl (fun h=>?_) (fun h=>?_)|refine ZI rfl rfl rfl (fun h=>?_) (fun h=>?_)|refine ZH rfl rfl rfl (fun h=>?_) (fun h=>?_)|refine ZT rfl rfl rfl (fun h=>?_) (fun h=>?_)|refine ZS rfl rfl rfl (fun h=>?_) (fun h=>?_)|refine ZR rfl rfl rfl (fun h=>?_) (fun h=>?_)) <;> (first|(exfalso;first|omega|contradiction)|(dsimp only [z0,z1])))|(apply ZQ;(exact oD);(with_reducible rfl))|(apply ZB;(exact oD);all_goals (intro h;try exact xD))|(apply ZM;(exact oD);all_goals (intro h;try exact xD))|refine WC.skip ?_|refine WC.ret ?_|refine WC.exit ?_|refine WC.block ?_|refine ThenD.n ?_));all_goals (first|((repeat clear hK);(repeat clear Kx))))
    ·(refine ⟨(k+1,true,_,_),?_,by first|omega|(simp only;omega),rfl,?_⟩;rotate_left;((try dsimp only [ZK,z0,z1]);repeat (first|exact LeF.nil|refine ZD (k:=?_)));(try dsimp only))
     have hk:k<s.length:=by omega
     refine ⟨by omega,by simp;omega,fun hc=>absurd hc (by simp),fun _=>?_⟩
     rw [<- h4 rfl,Zu hk];simp
    ·(refine ⟨trivial,_,rfl,?_⟩;refine ZA5 (.head _) ?_)
     rw [hp,<- h4 rfl,List.drop_of_length_le (by omega)];simp
   | false =>
    obtain ⟨rfl,h5⟩:=h3 rfl
    ((repeat' (first|((first|apply WL.opN|apply WD.opN);exact yF;dsimp only [ZC,z0,z1])|refine WL.nil ?_|refine WD.nil ?_|refine ZA fun Kx hK=>?_|(refine hK _ _ ?_;clear hK)|(refine Kont.skip ?_;clear hK)|refine WC.region ?_|(apply WC.draw;kernel_rfl;kernel_rfl)|((first|apply Zv|apply Zm);(exact eD);exact OpD.t rfl;(exact oD);(intro _;exact hD);(exact (by simp));(exact (by simp));(first|exact ⟨by decide,by decide⟩|skip);decide;(exact lD);(intro _;dsimp only [ZC,z0,z1]);all_goals (try infer_instance))|((first|apply ZF|apply WD.op);(focus (first|exact wN|(apply SYG.yes;(exact wY);((first|(apply SY.call (ZDu _ _) Tryz.call42;(exact aD))|exact ZB5|exact ZA1|exact ZHk|exact ZBN|exact ZB4|exact ZAk|exact ZV|exact ZBT|fail);all_goals infer_instance))));dsimp only [ZC,z0,z1])|((first|refine ZJ rfl rfl rfl (fun h=>?_) (fun h=>?_)|refine ZI rfl rfl rfl (fun h=>?_) (fun h=>?_)|refine ZH rfl rfl rfl (fun h=>?_) (fun h=>?_)|refine ZT rfl rfl rfl (fun h=>?_) (fun h=>?_)|refine ZS rfl rfl rfl (fun h=>?_) (fun h=>?_)|refine ZR rfl rfl rfl (fun h=>?_) (fun h=>?_)) <;> (first|(exfalso;first|omega|contradiction)|(dsimp only [z0,z1])))|(apply ZB;(exact oD);all_goals (intro h;try exact xD))|(apply ZM;(exact oD);all_goals (intro h;try exact xD))|refine WC.skip ?_|refine WC.ret ?_|refine WC.exit ?_|refine WC.block ?_|refine ThenD.n ?_));all_goals (first|((repeat clear hK);(repeat clear Kx))))
    ·(refine ⟨(k+1,true,_,_),?_,by first|omega|(simp only;omega),rfl,?_⟩;rotate_left;((try dsimp only [ZK,z0,z1]);repeat (first|exact LeF.nil|refine ZD (k:=?_)));(try dsimp only))
     have hk:k<s.length:=by omega
     refine ⟨by omega,by simp;omega,fun hc=>absurd hc (by simp),fun _=>?_⟩
     rw [<- ZFv hk h5 h,Zu hk];simp
    ·(refine ⟨(k+1,false,_,_),?_,by first|omega|(simp only;omega),rfl,?_⟩;rotate_left;((try dsimp only [ZK,z0,z1]);repeat (first|exact LeF.nil|refine ZD (k:=?_)));(try dsimp only))
     have hk:k<s.length:=by omega
     refine ⟨by omega,by simp;omega,fun _=>⟨(Zd hk).symm,fun y hy=>?_⟩,fun hc=>absurd hc (by simp)⟩
     rcases (Zs hk).1 hy with h'|rfl
     ·exact h5 y h'
     ·exact h
    ·(refine ⟨trivial,_,rfl,?_⟩;refine ZA5 (.head _) ?_)
     rw [hp]
     rw [List.take_of_length_le (by omega)] at h5 ⊢
     exact ZEO h5
theorem ZCI (a b:List Vx):Fn Tryz.prog 87 [dS ZN a,dS ZN b] (dB (Zw a b)):=by
 (refine ZE Tryz.func87 rfl rfl ?_;simp only [Tryz.ntmps87,List.length_cons,List.length_nil,Nat.reduceAdd,Nat.reduceSub,List.replicate_succ,List.replicate_zero,List.cons_append,List.nil_append])
 (repeat' (first|(apply WL.opN;exact yF;dsimp only [ZC,z0,z1])|refine WL.nil ?_|refine ZA fun Kx hK=>?_|(refine hK _ _ ?_;clear hK)|refine WC.region ?_|refine WC.block ?_))
 (first|refine ZU (t:=0) rfl ZDX fun hl0=>?_|refine ZU (t:=0) rfl ZDE fun hl0=>?_);simp only [maxLen] at hl0
 (refine WC.loopU (X:=Nat) (fun k=>[(5,dI (k:Int)),(4,dA),(6,dA),(7,dA),(8,dA),(9,dA),(10,dA),(11,dA),(12,dA),(13,dA),(14,dA),(15,dA),(16,dA),(17,dA),(18,dA)]) (fun k=>[]) (fun k=>a.length-k) (fun k=>k≤a.length/\(a.take k).all (fun x=>decide (x∈b))=true) 0 ?start ?frame0 ?objs0 ?round)
 case start=>simp
 case frame0=>((try dsimp only [ZK,z0,z1]);repeat (first|exact LeF.nil|refine ZD (k:=?_)))
 case objs0=>rfl
 case round =>
  rintro k ⟨h1,h2⟩
  dsimp only [ZK,z0,z1]
  ((repeat' (first|(apply WL.opN;exact yF;dsimp only [ZC,z0,z1])|refine WL.nil ?_|refine ZA fun Kx hK=>?_|(refine hK _ _ ?_;clear hK)|(refine Kont.skip ?_;clear hK)|refine WC.region ?_|(apply WL.opN;(focus ((first|(apply SY.call (ZGr _ _) Tryz.call55;(exact aD))|exact ZA1|exact ZHk|exact ZBN|exact ZAk|exact ZV|fail);all_goals infer_instance));dsimp only [ZC,z0,z1])|(apply ZB;(exact oD);all_goals (intro h;try exact xD))|(apply ZG;(exact oD);all_goals (intro h;try exact xD))|refine WC.skip ?_|refine WC.ret ?_|refine WC.exit ?_|refine WC.block ?_|refine ThenD.n ?_|refine ThenD.r ?_|refine InBlockD.r ?_));all_goals (first|((repeat clear hK);(repeat clear Kx))))
  ·(refine ⟨trivial,_,rfl,?_⟩;refine FinD.b ?_)
   unfold Zw
   symm
   rw [List.all_eq_false]
   exact ⟨a[k],List.getElem_mem _,by simpa using h⟩
  ·(refine ⟨k+1,?_,by first|omega|(simp only;omega),rfl,?_⟩;rotate_left;((try dsimp only [ZK,z0,z1]);repeat (first|exact LeF.nil|refine ZD (k:=?_)));(try dsimp only))
   exact ⟨by omega,by rw [ZF2 (by omega),h2];simpa using h⟩
  ·(refine ⟨trivial,_,rfl,?_⟩;refine FinD.b ?_)
   rw [List.take_of_length_le (by omega)] at h2
   exact h2.symm
theorem ZHB (a b:List Vx) (ha:a.length≤800) (hb:b.length≤100):Fn Tryz.prog 126 [dS ZN a,dS ZN b] (dS ZN (ZBH a b)):=by
 (refine ZE Tryz.func126 rfl rfl ?_;simp only [Tryz.ntmps126,List.length_cons,List.length_nil,Nat.reduceAdd,Nat.reduceSub,List.replicate_succ,List.replicate_zero,List.cons_append,List.nil_append])
 (repeat' (first|(apply WL.opN;exact yF;dsimp only [ZC,z0,z1])|refine WL.nil ?_|refine ZA fun Kx hK=>?_|(refine hK _ _ ?_;clear hK)|refine WC.region ?_ |  (apply ZCV elV RV (by decide);(intro _;dsimp only [ZC,z0,z1]);all_goals (try infer_instance))|((first|apply WL.appK|apply WL.app1);(exact eD);exact OpD.t rfl;(exact oD);decide;(exact lD);(intro _;dsimp only [ZC,z0,z1]);all_goals (try infer_instance))|refine WC.block ?_))
 refine ZEE (s:=5) rfl ?_
 dsimp only [z0,z1,List.nil_append]
 (refine WC.loopU (X:=Nat) (fun k=>[(5,dS ZN (ZBH a (b.take k))),(6,dI (k:Int)),(10,dA),(11,dA),(12,dA),(13,dA),(14,dA),(15,dA),(16,dA),(17,dA),(18,dA),(19,dA),(20,dA),(21,dA)]) (fun k=>[]) (fun k=>b.length-k) (fun k=>k≤b.length) 0 ?start ?frame0 ?objs0 ?round)
 case start=>simp
 case frame0=>((try dsimp only [ZK,z0,z1]);repeat (first|exact LeF.nil|refine ZD (k:=?_)))
 case objs0=>rfl
 case round =>
  rintro k h1
  dsimp only [ZK,z0,z1]
  have h2:=(ZA3 (b.take k) a).2
  have h3:(b.take k).length≤k:=List.length_take_le _ _
  have h4:(ZBH a (b.take k)).length≤1000:=by omega
  ((repeat' (first|(apply WL.opN;exact yF;dsimp only [ZC,z0,z1])|refine WL.nil ?_|refine ZA fun Kx hK=>?_|(refine hK _ _ ?_;clear hK)|(refine Kont.skip ?_;clear hK)|refine WC.region ?_|(apply WL.opN;(focus ((first|(apply SY.call (ZM5 _ _ h4) Tryz.call146;(exact aD))|exact ZA1|exact ZBN|exact ZAk|exact ZV|fail);all_goals infer_instance));dsimp only [ZC,z0,z1])|(apply ZB;(exact oD);all_goals (intro h;try exact xD))|refine WC.skip ?_|refine WC.ret ?_|refine WC.exit ?_|refine WC.block ?_|refine ThenD.n ?_));all_goals (first|((repeat clear hK);(repeat clear Kx))))
  ·rw [<- ZC2 a b k (by omega)]
   (refine ⟨k+1,?_,by first|omega|(simp only;omega),rfl,?_⟩;rotate_left;((try dsimp only [ZK,z0,z1]);repeat (first|exact LeF.nil|refine ZD (k:=?_)));(try dsimp only))
   omega
  ·(refine ⟨trivial,_,rfl,?_⟩;refine ZCQ ?_)
   rw [List.take_of_length_le (by omega)]
end
end Go.Proofs.YtofkoleingbbpaaGreatDoor
namespace Go.Proofs.YtofkoleingbbpaaGreatDoor.M
section
open Go.RowKit
open Go.RowKit





open Go.RowKit

section
variable {P:Program} {ops:Array Oper} {hp:List HObj} {o:Oper} {fr:List Dat} {d:Dat} {Q:Z6} {rest:List Oper}
variable {dst:Option Tmp} {ty:TypeId} {ps:String} {af:Array Edge} {g:Option (Nat × Bool)}


theorem ZCQ {α:Type} {R:Rel α} {_gR:Good R} {x y:α} (h:x=y):FinD hp (dS R x) (dS R y):=FinD.le (ZIK (by rw [h]))
end


open Go.RowKit

section
variable {P:Program} {ops:Array Oper} {hp:List HObj} {o:Oper} {fr:List Dat} {d:Dat} {Q:Z6} {rest:List Oper}
variable {dst:Option Tmp} {ty:TypeId} {ps:String} {af:Array Edge} {g:Option (Nat × Bool)}

end



open Go.RowKit

end
end Go.Proofs.YtofkoleingbbpaaGreatDoor.M
namespace Go.Proofs
section
open Go.Shelf
end
end Go.Proofs
namespace Go.Proofs.YtofkoleingbbpaaGreatDoor
section
open Go.RowKit

theorem ZJ3 (l:Cx) (s:List Vx):Fn Tryz.prog 95 [dS Cpx l,dS ZN s] (dB (ZA8 l s)):=by
 (refine ZE Tryz.func95 rfl rfl ?_;simp only [Tryz.ntmps95,List.length_cons,List.length_nil,Nat.reduceAdd,Nat.reduceSub,List.replicate_succ,List.replicate_zero,List.cons_append,List.nil_append])
 (repeat' (first|(apply WL.opN;exact yF;dsimp only [ZC,z0,z1])|refine WL.nil ?_|refine ZA fun Kx hK=>?_|(refine hK _ _ ?_;clear hK)|refine WC.region ?_|(apply WL.opN;(focus ((first|exact ZDO|fail);all_goals infer_instance));dsimp only [ZC,z0,z1])|refine WC.block ?_))
 (first|refine ZU (t:=0) rfl ZDX fun hl0=>?_|refine ZU (t:=0) rfl ZDE fun hl0=>?_|refine ZU (t:=0) rfl ZIJ fun hl0=>?_);simp only [maxLen] at hl0
 (refine WC.loopU (X:=Nat) (fun k=>[(5,dI (k:Int)),(4,dA),(6,dA),(7,dA),(8,dA),(9,dA),(10,dA),(11,dA),(12,dA),(13,dA),(14,dA),(15,dA),(16,dA),(17,dA),(18,dA),(19,dA)]) (fun k=>[]) (fun k=>l.length-k) (fun k=>k≤l.length/\ZA8 (l.take k) s=false) 0 ?start ?frame0 ?objs0 ?round)
 case start=>exact ⟨Nat.zero_le _,rfl⟩
 case frame0=>((try dsimp only [ZK,z0,z1]);repeat (first|exact LeF.nil|refine ZD (k:=?_)))
 case objs0=>rfl
 case round =>
  rintro k ⟨h1,h2⟩
  dsimp only [ZK,z0,z1]
  ((repeat' (first|(apply WL.opN;exact yF;dsimp only [ZC,z0,z1])|refine WL.nil ?_|refine ZA fun Kx hK=>?_|(refine hK _ _ ?_;clear hK)|(refine Kont.skip ?_;clear hK)|refine WC.region ?_|(apply WL.opN;(focus ((first|(apply SY.call (ZCI _ _) Tryz.call87;(exact aD))|exact ZA1|exact ZBN|exact ZAk|exact ZV|exact Zy|fail);all_goals infer_instance));dsimp only [ZC,z0,z1])|(apply ZB;(exact oD);all_goals (intro h;try exact xD))|(apply WC.cond;(exact oD);all_goals (intro h;try exact xD))|refine WC.skip ?_|refine WC.ret ?_|refine WC.exit ?_|refine WC.block ?_|refine ThenD.n ?_|refine ThenD.r ?_|refine InBlockD.r ?_));all_goals (first|((repeat clear hK);(repeat clear Kx))))
  ·(refine ⟨trivial,_,rfl,?_⟩;refine FinD.b ?_)
   symm
   unfold ZA8
   rw [List.any_eq_true]
   exact ⟨_,List.getElem_mem (show k<l.length by omega),h⟩
  ·(refine ⟨k+1,?_,by first|omega|(simp only;omega),rfl,?_⟩;rotate_left;((try dsimp only [ZK,z0,z1]);repeat (first|exact LeF.nil|refine ZD (k:=?_)));(try dsimp only))
   refine ⟨by omega,?_⟩
   unfold ZA8 at h2 ⊢
   rw [Zd (by omega),List.any_append,h2]
   simp [h]
  ·rw [List.take_of_length_le (by omega)] at h2
   (refine ⟨trivial,_,rfl,?_⟩;refine FinD.b ?_)
   rw [h2]
end
section
theorem ZEo {a:List Vx} (h:Asc a):a.Nodup:=List.Pairwise.imp (fun {x y} hxy e=>by
 subst e
 have:=ZCE.2 (rfl:x=x)
 omega) h
end
end Go.Proofs.YtofkoleingbbpaaGreatDoor
