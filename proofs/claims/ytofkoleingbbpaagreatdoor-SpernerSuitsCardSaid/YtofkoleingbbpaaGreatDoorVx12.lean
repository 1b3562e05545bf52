/- Part 12: walks by contracts, and plain laws. -/
import Derived.Test.YtofkoleingbbpaaGreatDoorVx11
set_option linter.unusedVariables false
set_option linter.unusedSimpArgs false
set_option linter.unusedSectionVars false
set_option maxRecDepth 100000
set_option maxHeartbeats 4000000
namespace Go.Proofs.YtofkoleingbbpaaGreatDoor
section
open Go.RowKit

theorem ZGF (x:Vx):Fn Tryz.prog 78 [dS RV x] (dB (ZDI x)):=by
 (refine ZE Tryz.func78 rfl rfl ?_;simp only [Tryz.ntmps78,List.length_cons,List.length_nil,Nat.reduceAdd,Nat.reduceSub,List.replicate_succ,List.replicate_zero,List.cons_append,List.nil_append])
 ((repeat' (first|(apply WL.opN;exact yF;dsimp only [ZB,z0,z1])|refine WL.nil ?_|refine ZA fun Kx hK=>?_|(refine hK _ _ ?_;clear hK)|refine WC.region ?_|(apply ZF;(focus (first|exact wN|(apply SYG.yes;(exact wY);((first|exact ZBx|exact ZSI|exact ZOS|exact ZEg|exact Z3|exact ZDY|exact ZFl|fail);all_goals infer_instance))));dsimp only [ZB,z0,z1])|((first|refine ZN rfl rfl rfl (fun h=>?_) (fun h=>?_)|refine ZM rfl rfl rfl (fun h=>?_) (fun h=>?_)|refine ZL rfl rfl rfl (fun h=>?_) (fun h=>?_)) <;> (first|(exfalso;first|omega|contradiction)|(dsimp only [z0,z1])))|refine WC.ret ?_));all_goals (first|((repeat clear hK);(repeat clear Kx))))
 all_goals ((refine ⟨trivial,_,rfl,?_⟩;refine FinD.b ?_);unfold ZDI;simp [*])
theorem ZRd (x:Int):Fn Tryz.prog 145 [dI x] (dB false):=by
 (refine ZE Tryz.func145 rfl rfl ?_;simp only [Tryz.ntmps145,List.length_cons,List.length_nil,Nat.reduceAdd,Nat.reduceSub,List.replicate_succ,List.replicate_zero,List.cons_append,List.nil_append])
 ((repeat' (first|(apply WL.opN;exact yF;dsimp only [ZB,z0,z1])|refine WL.nil ?_|refine ZA fun Kx hK=>?_|(refine hK _ _ ?_;clear hK)|refine WC.region ?_|(apply WL.opN;(focus ((first|exact ZEu|fail);all_goals infer_instance));dsimp only [ZB,z0,z1])|refine WC.ret ?_));all_goals (first|((repeat clear hK);(repeat clear Kx))))
 all_goals ((refine ⟨trivial,_,rfl,?_⟩;refine FinD.b ?_);simp)
def ZRH (x y:Int):Int:=if x<y then -1 else if y<x then 1 else 0
theorem ZMj (x y:Int):Fn Tryz.prog 121 [dI x,dI y] (dI (ZRH x y)):=by
 (refine ZE Tryz.func121 rfl rfl ?_;simp only [Tryz.ntmps121,List.length_cons,List.length_nil,Nat.reduceAdd,Nat.reduceSub,List.replicate_succ,List.replicate_zero,List.cons_append,List.nil_append])
 ((repeat' (first|(apply WL.opN;exact yF;dsimp only [ZB,z0,z1])|refine WL.nil ?_|refine ZA fun Kx hK=>?_|(refine hK _ _ ?_;clear hK)|refine WC.region ?_|(apply WL.opN;(focus ((first|(apply SY.call (ZRd _) Tryz.call145;(exact aD))|exact ZBx|exact ZGN|fail);all_goals infer_instance));dsimp only [ZB,z0,z1])|(apply ZY;(exact oD);(with_reducible rfl))|(apply ZC;(exact oD);all_goals (intro h;try exact xD))|refine WC.skip ?_|refine WC.ret ?_|refine ThenD.r ?_));all_goals (first|((repeat clear hK);(repeat clear Kx))))
 all_goals ((refine ⟨trivial,_,rfl,?_⟩;refine FinD.i ?_);unfold ZRH;simp [*])
 all_goals omega
def orI:List Int->Int
 | []=>0
 | x::l=>if x=0 then orI l else x
theorem ZEn {l:List Int} {k:Nat} (h:k<l.length):orI (l.drop k)=if l[k]=0 then orI (l.drop (k+1)) else l[k]:=by
 rw [List.drop_eq_getElem_cons h];rfl
theorem ZRf (l:List Int):Fn Tryz.prog 120 [dS ZBD l] (dI (orI l)):=by
 (refine ZE Tryz.func120 rfl rfl ?_;simp only [Tryz.ntmps120,List.length_cons,List.length_nil,Nat.reduceAdd,Nat.reduceSub,List.replicate_succ,List.replicate_zero,List.cons_append,List.nil_append])
 (repeat' (first|(apply WL.opN;exact yF;dsimp only [ZB,z0,z1])|refine WL.nil ?_|refine ZA fun Kx hK=>?_|(refine hK _ _ ?_;clear hK)|refine WC.region ?_|(apply WL.opN;(focus ((first|exact ZBg|fail);all_goals infer_instance));dsimp only [ZB,z0,z1])|refine WC.block ?_))
 (first|refine ZQ (t:=0) rfl ZEX fun hl0=>?_|refine ZQ (t:=0) rfl ZD7 fun hl0=>?_);simp only [maxLen] at hl0
 (refine WC.loopU (X:=Nat) (fun k=>[(8,dI (k:Int)),(2,dA),(5,dA),(9,dA),(10,dA),(11,dA),(12,dA),(13,dA),(14,dA),(15,dA),(16,dA)]) (fun k=>[]) (fun k=>l.length-k) (fun k=>k≤l.length/\orI l=orI (l.drop k)) 0 ?start ?frame0 ?objs0 ?round)
 case start=>exact ⟨Nat.zero_le _,rfl⟩
 case frame0=>((try dsimp only [ZK,z0,z1]);repeat (first|exact LeF.nil|refine ZD (k:=?_)))
 case objs0=>rfl
 case round =>
  rintro k ⟨h1,h2⟩
  dsimp only [ZK,z0,z1]
  ((repeat' (first|(apply WL.opN;exact yF;dsimp only [ZB,z0,z1])|refine WL.nil ?_|refine ZA fun Kx hK=>?_|(refine hK _ _ ?_;clear hK)|(refine Kont.skip ?_;clear hK)|refine WC.region ?_|(apply WL.opN;(focus ((first|exact ZBx|exact ZEu|exact ZC5|exact ZV|fail);all_goals infer_instance));dsimp only [ZB,z0,z1])|(apply ZC;(exact oD);all_goals (intro h;try exact xD))|(apply ZG;(exact oD);all_goals (intro h;try exact xD))|refine WC.skip ?_|refine WC.ret ?_|refine WC.exit ?_|refine WC.block ?_|refine ThenD.n ?_|refine ThenD.r ?_|refine InBlockD.r ?_));all_goals (first|((repeat clear hK);(repeat clear Kx))))
  ·(refine ⟨trivial,_,rfl,?_⟩;refine FinD.i ?_)
   rw [h2,ZEn (by omega),if_neg h]
  ·(refine ⟨k+1,?_,by first|omega|(simp only;omega),rfl,?_⟩;rotate_left;((try dsimp only [ZK,z0,z1]);repeat (first|exact LeF.nil|refine ZD (k:=?_)));(try dsimp only))
   exact ⟨by omega,by rw [h2,ZEn (by omega),if_pos h]⟩
  ·(refine ⟨trivial,_,rfl,?_⟩;refine FinD.i ?_)
   rw [h2,List.drop_of_length_le (by omega)];rfl
theorem ZMl (x y:Vx):orI [ZRH x.1 y.1,ZRH x.2 y.2]=ZAK x y:=by
 unfold ZAK ZRH orI orI orI
 repeat' split
 all_goals first|rfl|omega
theorem ZG8 (x y:Vx):Fn Tryz.prog 79 [dS RV x,dS RV y] (dI (ZAK x y)):=by
 (refine ZE Tryz.func79 rfl rfl ?_;simp only [Tryz.ntmps79,List.length_cons,List.length_nil,Nat.reduceAdd,Nat.reduceSub,List.replicate_succ,List.replicate_zero,List.cons_append,List.nil_append])
 ((repeat' (first|((first|apply WL.opN|apply WD.opN);exact yF;dsimp only [ZB,z0,z1])|refine WL.nil ?_|refine WD.nil ?_|refine ZA fun Kx hK=>?_|(refine hK _ _ ?_;clear hK)|refine WC.region ?_|(apply WC.draw;kernel_rfl;kernel_rfl)|((first|apply WL.opN|apply WD.opN);(focus ((first|(apply SY.call (ZMj _ _) Tryz.call121;(exact aD))|(apply SY.call (ZRf [_,_]) Tryz.call120;(exact aD))|exact Z3|exact ZDX|exact ZFl|fail);all_goals infer_instance));dsimp only [ZB,z0,z1])|refine WC.ret ?_));all_goals (first|((repeat clear hK);(repeat clear Kx))))
 all_goals ((refine ⟨trivial,_,rfl,?_⟩;refine FinD.i ?_);exact ZMl _ _)
set_option maxHeartbeats 4000000 in
theorem ZKp (s:List Vx):Fn Tryz.prog 39 [dS ZJ s] (dI (Z5 s)):=by
 (refine ZE Tryz.func39 rfl rfl ?_;simp only [Tryz.ntmps39,List.length_cons,List.length_nil,Nat.reduceAdd,Nat.reduceSub,List.replicate_succ,List.replicate_zero,List.cons_append,List.nil_append])
 ((repeat' (first|((first|apply WL.opN|apply WD.opN);exact yF;dsimp only [ZB,z0,z1])|refine WL.nil ?_|refine ZA fun Kx hK=>?_|(refine hK _ _ ?_;clear hK)|refine WC.region ?_|((first|apply ZF|apply WD.op);(focus (first|exact wN|(apply SYG.yes;(exact wY);((first|exact ZGN|exact ZOR|exact ZBg|fail);all_goals infer_instance))));dsimp only [ZB,z0,z1])|(apply ZC;(exact oD);all_goals (intro h;try exact xD))|refine WC.skip ?_|refine WC.ret ?_|refine WC.block ?_|refine ThenD.r ?_|refine InBlockD.r ?_));all_goals (first|refine WC.id ?_|((repeat clear hK);(repeat clear Kx))))
 ·(refine ⟨trivial,_,rfl,?_⟩;refine FinD.i ?_)
  unfold Z5;rw [if_pos (by omega)]
 ·(refine ⟨trivial,_,rfl,?_⟩;refine FinD.i ?_)
  unfold Z5;rw [if_neg (by omega),if_pos (by omega)]
 ·rename_i h1 h2
  have hs:Z5 s=ZLW none s:=by unfold Z5;rw [if_neg (by omega),if_neg (by omega)]
  (refine WC.loopU (X:=Nat) (fun k=>[(15,dI (k:Int)),(2,dA),(3,dA),(4,dA),(16,dA),(17,dA),(18,dA),(19,dA),(20,dA),(21,dA),(22,dA),(23,dA),(24,dA),(25,dA),(26,dA),(27,dA),(28,dA),(29,dA),(30,dA),(31,dA),(32,dA),(33,dA),(34,dA),(35,dA)]) (fun k=>[]) (fun k=>s.length-k) (fun k=>k≤s.length/\Z5 s=ZLW (s.take k).getLast? (s.drop k)) 0 ?start ?frame0 ?objs0 ?round)
  case start=>exact ⟨Nat.zero_le _,by rw [hs];rfl⟩
  case frame0=>((try dsimp only [ZK,z0,z1]);repeat (first|exact LeF.nil|refine ZD (k:=?_)))
  case objs0=>rfl
  case round =>
   rintro k ⟨h3,h4⟩
   dsimp only [ZK,z0,z1]
   ((repeat' (first|((first|apply WL.opN|apply WD.opN);exact yF;dsimp only [ZB,z0,z1])|refine WL.nil ?_|refine WD.nil ?_|refine ZA fun Kx hK=>?_|(refine hK _ _ ?_;clear hK)|(refine Kont.skip ?_;clear hK)|refine WC.region ?_|(apply WC.draw;kernel_rfl;kernel_rfl)|(apply WL.alloc;(exact tzV);(first|exact Zs rfl|exact ZAJ);(intro _;dsimp only [ZB,z0,z1]))|(apply ZR;(exact tD);rfl;(exact oD);(exact hD);dsimp only [ZB,z0,z1])|((first|apply ZF|apply WD.op);(focus (first|exact wN|(apply SYG.yes;(exact wY);((first|(apply SY.call (ZG8 _ _) Tryz.call79;(exact aD))|(apply SY.call (ZGF _) Tryz.call78;(exact aD))|(apply ZGX elV (OpD.t rfl) (OpD.t rfl) (k-1);omega;omega)|exact ZDv|exact ZBx|exact ZGN|exact ZOS|exact ZOT|exact ZC5|exact ZR5|exact ZEg|exact ZV|exact ZDY|fail);all_goals infer_instance))));dsimp only [ZB,z0,z1])|((first|refine ZN rfl rfl rfl (fun h=>?_) (fun h=>?_)|refine ZM rfl rfl rfl (fun h=>?_) (fun h=>?_)|refine ZL rfl rfl rfl (fun h=>?_) (fun h=>?_)|refine Za rfl rfl rfl (fun h=>?_) (fun h=>?_)|refine ZZ rfl rfl rfl (fun h=>?_) (fun h=>?_)|refine ZW rfl rfl rfl (fun h=>?_) (fun h=>?_)) <;> (first|(exfalso;first|omega|contradiction)|(dsimp only [z0,z1])))|(apply ZY;(exact oD);(with_reducible rfl))|(apply ZC;(exact oD);all_goals (intro h;try exact xD))|(apply ZO;(exact oD);all_goals (intro h;try exact xD))|refine WC.skip ?_|refine WC.ret ?_|refine WC.exit ?_|refine WC.block ?_|refine ThenD.n ?_|refine ThenD.r ?_|refine InBlockD.r ?_));all_goals (first|((repeat clear hK);(repeat clear Kx))))
   all_goals try (rw [ZH4 s k (by omega)] at h4)
   ·(refine ⟨trivial,_,rfl,?_⟩;refine FinD.i ?_)
    rw [h4,if_pos h]
   ·(refine ⟨trivial,_,rfl,?_⟩;refine FinD.i ?_)
    have h5:ZDI s[k]=true:=by assumption
    rw [h4,if_neg (by simp [h5]),ZDj _ _ (by omega) (by omega),if_pos (by simpa using h)]
   ·(refine ⟨k+1,?_,by first|omega|(simp only;omega),rfl,?_⟩;rotate_left;((try dsimp only [ZK,z0,z1]);repeat (first|exact LeF.nil|refine ZD (k:=?_)));(try dsimp only))
    refine ⟨by omega,?_⟩
    have h5:ZDI s[k]=true:=by assumption
    rw [h4,if_neg (by simp [h5]),ZDj _ _ (by omega) (by omega),if_neg (by simpa using h)]
   ·(refine ⟨k+1,?_,by first|omega|(simp only;omega),rfl,?_⟩;rotate_left;((try dsimp only [ZK,z0,z1]);repeat (first|exact LeF.nil|refine ZD (k:=?_)));(try dsimp only))
    refine ⟨by omega,?_⟩
    have h5:ZDI s[k]=true:=by assumption
    have h0:(s.take k).getLast?=none:=by
     have:k=0:=by omega
     rw [this];rfl
    rw [h4,if_neg (by simp [h5]),h0]
    rfl
   ·(refine ⟨trivial,_,rfl,?_⟩;refine FinD.i ?_)
    rw [h4,List.drop_of_length_le (by omega)]
    rfl
end
section
open Go.RowKit

abbrev ZSY (p:Vx->Bool):Dat:=ZIs Tryz.prog (fun v=>[dS RV v]) (fun v=>dB (p v))
def ZF9 {α:Type} (p:α->Bool):Nat->List α->Int
 | _,[]=>-1
 | k,x::l=>if p x=true then (k:Int) else ZF9 p (k+1) l
theorem ZCG {α:Type} {p:α->Bool} {l:List α} {k:Nat} (h:k<l.length):ZF9 p k (l.drop k)=if p l[k]=true then (k:Int) else ZF9 p (k+1) (l.drop (k+1)):=by
 rw [List.drop_eq_getElem_cons h];rfl
theorem ZEl {α:Type} {p:α->Bool}:∀ (l:List α) (k:Nat),decide (0≤ZF9 p k l)=l.any p
 | [],k=>by simp [ZF9]
 | x::l,k=>by
  unfold ZF9
  rw [List.any_cons]
  split
  ·rename_i h;rw [h];simp
  ·rename_i h;rw [ZEl l];simp [h]
theorem ZSk (l:List (Vx)) (p:Vx->Bool):Fn Tryz.prog 125 [dS ZJ l,ZSY p] (dI (ZF9 p 0 l)):=by
 (refine ZE Tryz.func125 rfl rfl ?_;simp only [Tryz.ntmps125,List.length_cons,List.length_nil,Nat.reduceAdd,Nat.reduceSub,List.replicate_succ,List.replicate_zero,List.cons_append,List.nil_append])
 (repeat' (first|(apply WL.opN;exact yF;dsimp only [ZB,z0,z1])|refine WL.nil ?_|refine ZA fun Kx hK=>?_|(refine hK _ _ ?_;clear hK)|refine WC.region ?_|(apply WL.opN;(focus ((first|exact ZBg|fail);all_goals infer_instance));dsimp only [ZB,z0,z1])|refine WC.block ?_))
 (first|refine ZQ (t:=0) rfl ZEX fun hl0=>?_|refine ZQ (t:=0) rfl ZD7 fun hl0=>?_);simp only [maxLen] at hl0
 (refine WC.loopU (X:=Nat) (fun k=>[(8,dI (k:Int)),(4,dA),(5,dA),(9,dA),(10,dA),(11,dA),(12,dA),(13,dA),(14,dA),(15,dA),(16,dA),(17,dA),(18,dA)]) (fun k=>[]) (fun k=>l.length-k) (fun k=>k≤l.length/\ZF9 p 0 l=ZF9 p k (l.drop k)) 0 ?start ?frame0 ?objs0 ?round)
 case start=>exact ⟨Nat.zero_le _,rfl⟩
 case frame0=>((try dsimp only [ZK,z0,z1]);repeat (first|exact LeF.nil|refine ZD (k:=?_)))
 case objs0=>rfl
 case round =>
  rintro k ⟨h1,h2⟩
  dsimp only [ZK,z0,z1]
  ((repeat' (first|(apply WL.opN;exact yF;dsimp only [ZB,z0,z1])|refine WL.nil ?_|refine ZA fun Kx hK=>?_|(refine hK _ _ ?_;clear hK)|(refine Kont.skip ?_;clear hK)|refine WC.region ?_|(apply WL.opN;(focus ((first|exact ZBx|exact ZC5|exact ZV|exact yDyn|fail);all_goals infer_instance));dsimp only [ZB,z0,z1])|(apply ZC;(exact oD);all_goals (intro h;try exact xD))|(apply WC.cond;(exact oD);all_goals (intro h;try exact xD))|refine WC.skip ?_|refine WC.ret ?_|refine WC.exit ?_|refine WC.block ?_|refine ThenD.n ?_|refine ThenD.r ?_|refine InBlockD.r ?_));all_goals (first|((repeat clear hK);(repeat clear Kx))))
  ·(refine ⟨trivial,_,rfl,?_⟩;refine FinD.i ?_)
   rw [h2,ZCG (by omega),if_pos h]
  ·(refine ⟨k+1,?_,by first|omega|(simp only;omega),rfl,?_⟩;rotate_left;((try dsimp only [ZK,z0,z1]);repeat (first|exact LeF.nil|refine ZD (k:=?_)));(try dsimp only))
   exact ⟨by omega,by rw [h2,ZCG (by omega),if_neg (by simp [h])]⟩
  ·(refine ⟨trivial,_,rfl,?_⟩;refine FinD.i ?_)
   rw [h2,List.drop_of_length_le (by omega)];rfl
theorem ZQO (l:List Vx) (p:Vx->Bool):Fn Tryz.prog 83 [dS ZJ l,ZSY p] (dB (l.any p)):=by
 (refine ZE Tryz.func83 rfl rfl ?_;simp only [Tryz.ntmps83,List.length_cons,List.length_nil,Nat.reduceAdd,Nat.reduceSub,List.replicate_succ,List.replicate_zero,List.cons_append,List.nil_append])
 ((repeat' (first|(apply WL.opN;exact yF;dsimp only [ZB,z0,z1])|refine WL.nil ?_|refine ZA fun Kx hK=>?_|(refine hK _ _ ?_;clear hK)|refine WC.region ?_|(apply WL.opN;(focus ((first|(apply SY.call (ZSk _ _) Tryz.call125;(exact aD))|exact ZOS|fail);all_goals infer_instance));dsimp only [ZB,z0,z1])|refine WC.ret ?_));all_goals (first|((repeat clear hK);(repeat clear Kx))))
 all_goals ((refine ⟨trivial,_,rfl,?_⟩;refine FinD.b ?_);exact ZEl _ _)
theorem ZSm (l:List Vx) (v:Vx):Fn Tryz.prog 94 [dS ZJ l,dS RV v] (dI (ZF9 (fun y=>decide (v=y)) 0 l)):=by
 (refine ZE Tryz.func94 rfl rfl ?_;simp only [Tryz.ntmps94,List.length_cons,List.length_nil,Nat.reduceAdd,Nat.reduceSub,List.replicate_succ,List.replicate_zero,List.cons_append,List.nil_append])
 (repeat' (first|((first|apply WL.opN|apply WD.opN);exact yF;dsimp only [ZB,z0,z1])|refine WL.nil ?_|refine ZA fun Kx hK=>?_|(refine hK _ _ ?_;clear hK)|refine WC.region ?_|((first|apply WL.opN|apply WD.opN);(focus ((first|exact ZBg|exact ZFl|fail);all_goals infer_instance));dsimp only [ZB,z0,z1])|refine WC.block ?_))
 (first|refine ZQ (t:=0) rfl ZEX fun hl0=>?_|refine ZQ (t:=0) rfl ZD7 fun hl0=>?_);simp only [maxLen] at hl0
 (refine WC.loopU (X:=Nat) (fun k=>[(8,dI (k:Int)),(4,dA),(5,dA),(9,dA),(10,dA),(11,dA),(12,dA),(13,dA),(14,dA),(15,dA),(16,dA),(17,dA),(18,dA)]) (fun k=>[]) (fun k=>l.length-k) (fun k=>k≤l.length/\ZF9 (fun y=>decide (v=y)) 0 l=ZF9 (fun y=>decide (v=y)) k (l.drop k)) 0 ?start ?frame0 ?objs0 ?round)
 case start=>exact ⟨Nat.zero_le _,rfl⟩
 case frame0=>((try dsimp only [ZK,z0,z1]);repeat (first|exact LeF.nil|refine ZD (k:=?_)))
 case objs0=>rfl
 case round =>
  rintro k ⟨h1,h2⟩
  dsimp only [ZK,z0,z1]
  ((repeat' (first|((first|apply WL.opN|apply WD.opN);exact yF;dsimp only [ZB,z0,z1])|refine WL.nil ?_|refine WD.nil ?_|refine ZA fun Kx hK=>?_|(refine hK _ _ ?_;clear hK)|(refine Kont.skip ?_;clear hK)|refine WC.region ?_|(apply WC.draw;kernel_rfl;kernel_rfl)|((first|apply WL.opN|apply WD.opN);(focus ((first|exact ZBx|exact ZOR|exact ZC5|exact ZV|fail);all_goals infer_instance));dsimp only [ZB,z0,z1])|(apply ZC;(exact oD);all_goals (intro h;try exact xD))|refine WC.skip ?_|refine WC.ret ?_|refine WC.exit ?_|refine WC.block ?_|refine ThenD.n ?_|refine ThenD.r ?_|refine InBlockD.r ?_));all_goals (first|((repeat clear hK);(repeat clear Kx))))
  ·(refine ⟨trivial,_,rfl,?_⟩;refine FinD.i ?_)
   rw [h2,ZCG (by omega),if_pos (by simpa using h)]
  ·(refine ⟨k+1,?_,by first|omega|(simp only;omega),rfl,?_⟩;rotate_left;((try dsimp only [ZK,z0,z1]);repeat (first|exact LeF.nil|refine ZD (k:=?_)));(try dsimp only))
   exact ⟨by omega,by rw [h2,ZCG (by omega),if_neg (by simpa using h)]⟩
  ·(refine ⟨trivial,_,rfl,?_⟩;refine FinD.i ?_)
   rw [h2,List.drop_of_length_le (by omega)];rfl
theorem cnt_p (l:List Vx) (v:Vx):Fn Tryz.prog 52 [dS ZJ l,dS RV v] (dB (decide (v∈l))):=by
 (refine ZE Tryz.func52 rfl rfl ?_;simp only [Tryz.ntmps52,List.length_cons,List.length_nil,Nat.reduceAdd,Nat.reduceSub,List.replicate_succ,List.replicate_zero,List.cons_append,List.nil_append])
 ((repeat' (first|(apply WL.opN;exact yF;dsimp only [ZB,z0,z1])|refine WL.nil ?_|refine ZA fun Kx hK=>?_|(refine hK _ _ ?_;clear hK)|refine WC.region ?_|(apply WL.opN;(focus ((first|(apply SY.call (ZSm _ _) Tryz.call94;(exact aD))|exact ZOS|exact ZFl|fail);all_goals infer_instance));dsimp only [ZB,z0,z1])|refine WC.ret ?_));all_goals (first|((repeat clear hK);(repeat clear Kx))))
 all_goals ((refine ⟨trivial,_,rfl,?_⟩;refine FinD.b ?_);rw [ZEl])
 all_goals (rw [Bool.eq_iff_iff];simp)
end
section
open Go.RowKit

theorem ZJs (x y:Vx):Fn Tryz.prog 42 [dS RV x,dS RV y] (dI (ZAK x y)):=by
 (refine ZE Tryz.func42 rfl rfl ?_;simp only [Tryz.ntmps42,List.length_cons,List.length_nil,Nat.reduceAdd,Nat.reduceSub,List.replicate_succ,List.replicate_zero,List.cons_append,List.nil_append])
 ((repeat' (first|(apply WL.opN;exact yF;dsimp only [ZB,z0,z1])|refine WL.nil ?_|refine ZA fun Kx hK=>?_|(refine hK _ _ ?_;clear hK)|refine WC.region ?_|(apply WL.opN;(focus ((first|exact ZBx|exact ZGN|exact Z3|exact ZFl|fail);all_goals infer_instance));dsimp only [ZB,z0,z1])|(apply ZC;(exact oD);all_goals (intro h;try exact xD))|refine WC.skip ?_|refine WC.ret ?_|refine WC.block ?_|refine ThenD.r ?_|refine InBlockD.r ?_));all_goals (first|((repeat clear hK);(repeat clear Kx))))
 all_goals ((refine ⟨trivial,_,rfl,?_⟩;refine FinD.i ?_);unfold ZAK;simp [*])
theorem ZQe (x:Vx):Fn Tryz.prog 41 [dS RV x] (dB (ZDI x)):=by
 (refine ZE Tryz.func41 rfl rfl ?_;simp only [Tryz.ntmps41,List.length_cons,List.length_nil,Nat.reduceAdd,Nat.reduceSub,List.replicate_succ,List.replicate_zero,List.cons_append,List.nil_append])
 ((repeat' (first|(apply WL.opN;exact yF;dsimp only [ZB,z0,z1])|refine WL.nil ?_|refine ZA fun Kx hK=>?_|(refine hK _ _ ?_;clear hK)|refine WC.region ?_|(apply ZF;(focus (first|exact wN|(apply SYG.yes;(exact wY);((first|exact ZBx|exact ZSI|exact ZOS|exact ZEg|exact Z3|exact ZDY|exact ZFl|fail);all_goals infer_instance))));dsimp only [ZB,z0,z1])|((first|refine ZN rfl rfl rfl (fun h=>?_) (fun h=>?_)|refine ZM rfl rfl rfl (fun h=>?_) (fun h=>?_)|refine ZL rfl rfl rfl (fun h=>?_) (fun h=>?_)) <;> (first|(exfalso;first|omega|contradiction)|(dsimp only [z0,z1])))|refine WC.ret ?_));all_goals (first|((repeat clear hK);(repeat clear Kx))))
 all_goals ((refine ⟨trivial,_,rfl,?_⟩;refine FinD.b ?_);unfold ZDI;simp [*])
theorem few_c (s:List Vx):Fn Tryz.prog 19 [dS ZJ s] (dB (decide ((s.length:Int)≤10))):=by
 (refine ZE Tryz.func19 rfl rfl ?_;simp only [Tryz.ntmps19,List.length_cons,List.length_nil,Nat.reduceAdd,Nat.reduceSub,List.replicate_succ,List.replicate_zero,List.cons_append,List.nil_append])
 ((repeat' (first|(apply WL.opN;exact yF;dsimp only [ZB,z0,z1])|refine WL.nil ?_|refine ZA fun Kx hK=>?_|(refine hK _ _ ?_;clear hK)|refine WC.region ?_|(apply WL.opN;(focus ((first|exact ZSI|exact ZBg|fail);all_goals infer_instance));dsimp only [ZB,z0,z1])|refine WC.ret ?_));all_goals (first|((repeat clear hK);(repeat clear Kx))))
 all_goals (refine ⟨trivial,_,rfl,?_⟩;exact fD)
set_option maxHeartbeats 4000000 in
theorem ZQN (a b:List Vx):Fn Tryz.prog 77 [dS ZJ a,dS ZJ b] (dI (ZAX a b)):=by
 (refine ZE Tryz.func77 rfl rfl ?_;simp only [Tryz.ntmps77,List.length_cons,List.length_nil,Nat.reduceAdd,Nat.reduceSub,List.replicate_succ,List.replicate_zero,List.cons_append,List.nil_append])
 (repeat' (first|((first|apply WL.opN|apply WD.opN);exact yF;dsimp only [ZB,z0,z1])|refine WL.nil ?_|refine ZA fun Kx hK=>?_|(refine hK _ _ ?_;clear hK)|refine WC.region ?_|refine WC.block ?_))
 (first|refine ZQ (t:=0) rfl ZEX fun hl0=>?_|refine ZQ (t:=0) rfl ZD7 fun hl0=>?_);simp only [maxLen] at hl0
 (first|refine ZQ (t:=1) rfl ZEX fun hl1=>?_|refine ZQ (t:=1) rfl ZD7 fun hl1=>?_);simp only [maxLen] at hl1
 (refine WC.loopU (X:=Nat) (fun k=>[(5,dI (k:Int)),(4,dA),(6,dA),(7,dA),(8,dA),(9,dA),(10,dA),(11,dA),(12,dA),(13,dA),(14,dA),(15,dA),(16,dA),(17,dA),(18,dA),(19,dA),(20,dA),(21,dA),(22,dA),(23,dA),(24,dA),(25,dA),(26,dA),(27,dA),(28,dA),(29,dA),(30,dA)]) (fun k=>[]) (fun k=>a.length-k) (fun k=>k≤a.length/\k≤b.length/\ZAX a b=ZAX (a.drop k) (b.drop k)) 0 ?start ?frame0 ?objs0 ?round)
 case start=>exact ⟨Nat.zero_le _,Nat.zero_le _,rfl⟩
 case frame0=>((try dsimp only [ZK,z0,z1]);repeat (first|exact LeF.nil|refine ZD (k:=?_)))
 case objs0=>rfl
 case round =>
  rintro k ⟨h1,h2,h3⟩
  dsimp only [ZK,z0,z1]
  ((repeat' (first|((first|apply WL.opN|apply WD.opN);exact yF;dsimp only [ZB,z0,z1])|refine WL.nil ?_|refine WD.nil ?_|refine ZA fun Kx hK=>?_|(refine hK _ _ ?_;clear hK)|(refine Kont.skip ?_;clear hK)|refine WC.region ?_|(apply WC.draw;kernel_rfl;kernel_rfl)|((first|apply ZF|apply WD.op);(focus (first|exact wN|(apply SYG.yes;(exact wY);((first|(apply SY.call (ZJs _ _) Tryz.call42;(exact aD))|exact ZDv|exact ZBx|exact ZGN|exact ZEu|exact ZC5|exact ZBg|exact ZV|exact ZDY|fail);all_goals infer_instance))));dsimp only [ZB,z0,z1])|((first|refine ZN rfl rfl rfl (fun h=>?_) (fun h=>?_)|refine ZM rfl rfl rfl (fun h=>?_) (fun h=>?_)|refine ZL rfl rfl rfl (fun h=>?_) (fun h=>?_)|refine Za rfl rfl rfl (fun h=>?_) (fun h=>?_)|refine ZZ rfl rfl rfl (fun h=>?_) (fun h=>?_)|refine ZW rfl rfl rfl (fun h=>?_) (fun h=>?_)) <;> (first|(exfalso;first|omega|contradiction)|(dsimp only [z0,z1])))|(apply ZY;(exact oD);(with_reducible rfl))|(apply ZC;(exact oD);all_goals (intro h;try exact xD))|(apply ZG;(exact oD);all_goals (intro h;try exact xD))|refine WC.skip ?_|refine WC.ret ?_|refine WC.exit ?_|refine WC.block ?_|refine ThenD.n ?_|refine ThenD.r ?_|refine InBlockD.r ?_));all_goals (first|((repeat clear hK);(repeat clear Kx))))
  all_goals first
   | ((refine ⟨k+1,?_,by first|omega|(simp only;omega),rfl,?_⟩;rotate_left;((try dsimp only [ZK,z0,z1]);repeat (first|exact LeF.nil|refine ZD (k:=?_)));(try dsimp only));exact ⟨by omega,by omega,h3.trans (ZFA (by omega) (by omega) (by assumption))⟩)
   | ((refine ⟨trivial,_,rfl,?_⟩;refine FinD.i ?_);rw [h3,ZDd];repeat' split) <;> first|rfl|contradiction|omega
theorem ZQh (a b:List Vx):Fn Tryz.prog 38 [dS ZJ a,dS ZJ b] (dB (decide (ZAX a b=0))):=by
 (refine ZE Tryz.func38 rfl rfl ?_;simp only [Tryz.ntmps38,List.length_cons,List.length_nil,Nat.reduceAdd,Nat.reduceSub,List.replicate_succ,List.replicate_zero,List.cons_append,List.nil_append])
 ((repeat' (first|(apply WL.opN;exact yF;dsimp only [ZB,z0,z1])|refine WL.nil ?_|refine ZA fun Kx hK=>?_|(refine hK _ _ ?_;clear hK)|refine WC.region ?_|(apply WL.opN;(focus ((first|(apply SY.call (ZQN _ _) Tryz.call77;(exact aD))|exact ZOR|fail);all_goals infer_instance));dsimp only [ZB,z0,z1])|refine WC.ret ?_));all_goals (first|((repeat clear hK);(repeat clear Kx))))
 all_goals (refine ⟨trivial,_,rfl,?_⟩;exact fD)
theorem ZSj (s:List Vx) (v:Vx):Fn Tryz.prog 55 [dS ZJ s,dS RV v] (dB (decide (v∈s))):=by
 (refine ZE Tryz.func55 rfl rfl ?_;simp only [Tryz.ntmps55,List.length_cons,List.length_nil,Nat.reduceAdd,Nat.reduceSub,List.replicate_succ,List.replicate_zero,List.cons_append,List.nil_append])
 (repeat' (first|((first|apply WL.opN|apply WD.opN);exact yF;dsimp only [ZB,z0,z1])|refine WL.nil ?_|refine ZA fun Kx hK=>?_|(refine hK _ _ ?_;clear hK)|refine WC.region ?_|((first|apply WL.opN|apply WD.opN);(focus ((first|exact ZFl|fail);all_goals infer_instance));dsimp only [ZB,z0,z1])|refine WC.block ?_))
 (first|refine ZQ (t:=0) rfl ZEX fun hl0=>?_|refine ZQ (t:=0) rfl ZD7 fun hl0=>?_);simp only [maxLen] at hl0
 (refine WC.loopU (X:=Nat) (fun k=>[(5,dI (k:Int)),(4,dA),(6,dA),(7,dA),(8,dA),(9,dA),(10,dA),(11,dA),(12,dA),(13,dA),(14,dA),(15,dA),(16,dA),(17,dA)]) (fun k=>[]) (fun k=>s.length-k) (fun k=>k≤s.length/\v∉s.take k) 0 ?start ?frame0 ?objs0 ?round)
 case start=>simp
 case frame0=>((try dsimp only [ZK,z0,z1]);repeat (first|exact LeF.nil|refine ZD (k:=?_)))
 case objs0=>rfl
 case round =>
  rintro k ⟨h1,h2⟩
  dsimp only [ZK,z0,z1]
  ((repeat' (first|((first|apply WL.opN|apply WD.opN);exact yF;dsimp only [ZB,z0,z1])|refine WL.nil ?_|refine WD.nil ?_|refine ZA fun Kx hK=>?_|(refine hK _ _ ?_;clear hK)|(refine Kont.skip ?_;clear hK)|refine WC.region ?_|(apply WC.draw;kernel_rfl;kernel_rfl)|((first|apply WL.opN|apply WD.opN);(focus ((first|exact ZBx|exact ZOR|exact ZC5|exact ZBg|exact ZV|fail);all_goals infer_instance));dsimp only [ZB,z0,z1])|(apply ZC;(exact oD);all_goals (intro h;try exact xD))|refine WC.skip ?_|refine WC.ret ?_|refine WC.exit ?_|refine WC.block ?_|refine ThenD.n ?_|refine ThenD.r ?_|refine InBlockD.r ?_));all_goals (first|((repeat clear hK);(repeat clear Kx))))
  ·(refine ⟨trivial,_,rfl,?_⟩;refine FinD.b ?_)
   rename_i h
   rw [<- h];simp
  ·(refine ⟨k+1,?_,by first|omega|(simp only;omega),rfl,?_⟩;rotate_left;((try dsimp only [ZK,z0,z1]);repeat (first|exact LeF.nil|refine ZD (k:=?_)));(try dsimp only))
   rename_i h
   exact ⟨by omega,fun hm=>by rcases (ZA7 (by omega)).1 hm with h'|h';exact h2 h';exact h h'.symm⟩
  ·(refine ⟨trivial,_,rfl,?_⟩;refine FinD.b ?_)
   rw [List.take_of_length_le (by omega)] at h2
   simp [h2]
set_option maxHeartbeats 4000000 in
theorem chk_c (s:List Vx):Fn Tryz.prog 53 [dS ZJ s] (dI (Z5 s)):=by
 (refine ZE Tryz.func53 rfl rfl ?_;simp only [Tryz.ntmps53,List.length_cons,List.length_nil,Nat.reduceAdd,Nat.reduceSub,List.replicate_succ,List.replicate_zero,List.cons_append,List.nil_append])
 ((repeat' (first|((first|apply WL.opN|apply WD.opN);exact yF;dsimp only [ZB,z0,z1])|refine WL.nil ?_|refine ZA fun Kx hK=>?_|(refine hK _ _ ?_;clear hK)|refine WC.region ?_|((first|apply ZF|apply WD.op);(focus (first|exact wN|(apply SYG.yes;(exact wY);((first|exact ZGN|exact ZOR|exact ZBg|fail);all_goals infer_instance))));dsimp only [ZB,z0,z1])|(apply ZC;(exact oD);all_goals (intro h;try exact xD))|refine WC.skip ?_|refine WC.ret ?_|refine WC.block ?_|refine ThenD.r ?_|refine InBlockD.r ?_));all_goals (first|refine WC.id ?_|((repeat clear hK);(repeat clear Kx))))
 ·(refine ⟨trivial,_,rfl,?_⟩;refine FinD.i ?_)
  unfold Z5;rw [if_pos (by omega)]
 ·(refine ⟨trivial,_,rfl,?_⟩;refine FinD.i ?_)
  unfold Z5;rw [if_neg (by omega),if_pos (by omega)]
 ·rename_i h1 h2
  have hs:Z5 s=ZLW none s:=by unfold Z5;rw [if_neg (by omega),if_neg (by omega)]
  (refine WC.loopU (X:=Nat) (fun k=>[(3,dI (k:Int)),(2,dA),(12,dA),(13,dA),(14,dA),(15,dA),(16,dA),(17,dA),(18,dA),(19,dA),(20,dA),(21,dA),(22,dA),(23,dA),(24,dA),(25,dA),(26,dA),(27,dA),(28,dA),(29,dA),(30,dA),(31,dA),(32,dA),(33,dA),(34,dA),(35,dA),(36,dA),(37,dA),(38,dA)]) (fun k=>[]) (fun k=>s.length-k) (fun k=>k≤s.length/\Z5 s=ZLW (s.take k).getLast? (s.drop k)) 0 ?start ?frame0 ?objs0 ?round)
  case start=>exact ⟨Nat.zero_le _,by rw [hs];rfl⟩
  case frame0=>((try dsimp only [ZK,z0,z1]);repeat (first|exact LeF.nil|refine ZD (k:=?_)))
  case objs0=>rfl
  case round =>
   rintro k ⟨h3,h4⟩
   dsimp only [ZK,z0,z1]
   ((repeat' (first|((first|apply WL.opN|apply WD.opN);exact yF;dsimp only [ZB,z0,z1])|refine WL.nil ?_|refine WD.nil ?_|refine ZA fun Kx hK=>?_|(refine hK _ _ ?_;clear hK)|(refine Kont.skip ?_;clear hK)|refine WC.region ?_|(apply WC.draw;kernel_rfl;kernel_rfl)|((first|apply ZF|apply WD.op);(focus (first|exact wN|(apply SYG.yes;(exact wY);((first|(apply SY.call (ZJs _ _) Tryz.call42;(exact aD))|(apply SY.call (ZQe _) Tryz.call41;(exact aD))|(apply ZGX elV (OpD.t rfl) (OpD.t rfl) (k-1);omega;omega)|exact ZDv|exact ZBx|exact ZGN|exact ZOS|exact ZOT|exact ZC5|exact ZR5|exact ZEg|exact ZBg|exact ZV|exact ZDY|fail);all_goals infer_instance))));dsimp only [ZB,z0,z1])|((first|refine ZN rfl rfl rfl (fun h=>?_) (fun h=>?_)|refine ZM rfl rfl rfl (fun h=>?_) (fun h=>?_)|refine ZL rfl rfl rfl (fun h=>?_) (fun h=>?_)|refine Za rfl rfl rfl (fun h=>?_) (fun h=>?_)|refine ZZ rfl rfl rfl (fun h=>?_) (fun h=>?_)|refine ZW rfl rfl rfl (fun h=>?_) (fun h=>?_)) <;> (first|(exfalso;first|omega|contradiction)|(dsimp only [z0,z1])))|(apply ZY;(exact oD);(with_reducible rfl))|(apply ZC;(exact oD);all_goals (intro h;try exact xD))|(apply ZO;(exact oD);all_goals (intro h;try exact xD))|refine WC.skip ?_|refine WC.ret ?_|refine WC.exit ?_|refine WC.block ?_|refine ThenD.n ?_|refine ThenD.r ?_|refine InBlockD.r ?_));all_goals (first|((repeat clear hK);(repeat clear Kx))))
   all_goals try (rw [ZH4 s k (by omega)] at h4)
   ·(refine ⟨trivial,_,rfl,?_⟩;refine FinD.i ?_)
    rw [h4,if_pos h]
   ·(refine ⟨trivial,_,rfl,?_⟩;refine FinD.i ?_)
    have h5:ZDI s[k]=true:=by assumption
    rw [h4,if_neg (by simp [h5]),ZDj _ _ (by omega) (by omega),if_pos (by simpa using h)]
   ·(refine ⟨k+1,?_,by first|omega|(simp only;omega),rfl,?_⟩;rotate_left;((try dsimp only [ZK,z0,z1]);repeat (first|exact LeF.nil|refine ZD (k:=?_)));(try dsimp only))
    refine ⟨by omega,?_⟩
    have h5:ZDI s[k]=true:=by assumption
    rw [h4,if_neg (by simp [h5]),ZDj _ _ (by omega) (by omega),if_neg (by simpa using h)]
   ·(refine ⟨k+1,?_,by first|omega|(simp only;omega),rfl,?_⟩;rotate_left;((try dsimp only [ZK,z0,z1]);repeat (first|exact LeF.nil|refine ZD (k:=?_)));(try dsimp only))
    refine ⟨by omega,?_⟩
    have h5:ZDI s[k]=true:=by assumption
    have h0:(s.take k).getLast?=none:=by
     have:k=0:=by omega
     rw [this];rfl
    rw [h4,if_neg (by simp [h5]),h0]
    rfl
   ·(refine ⟨trivial,_,rfl,?_⟩;refine FinD.i ?_)
    rw [h4,List.drop_of_length_le (by omega)]
    rfl
end
end Go.Proofs.YtofkoleingbbpaaGreatDoor
