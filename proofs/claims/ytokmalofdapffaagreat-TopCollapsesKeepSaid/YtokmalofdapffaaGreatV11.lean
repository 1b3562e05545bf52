/- Part 11: walks by contracts, and plain laws. -/
import Derived.Test.YtokmalofdapffaaGreatV10
set_option linter.unusedVariables false
set_option linter.unusedSimpArgs false
set_option linter.unusedSectionVars false
set_option maxRecDepth 100000
set_option maxHeartbeats 4000000
namespace Go.Proofs.YtokmalofdapffaaGreat
section
open Go.RowKit

theorem ZLm (x:Vx):Fn Tryz.prog 54 [dS RV x] (dB (ZH0 x)):=by
 (refine ZG Tryz.func54 rfl rfl ?_;simp only [Tryz.ntmps54,List.length_cons,List.length_nil,Nat.reduceAdd,Nat.reduceSub,List.replicate_succ,List.replicate_zero,List.cons_append,List.nil_append])
 ((repeat' (first|(apply WL.opN;exact yF;dsimp only [ZB,z0,z1])|refine WL.nil ?_|refine ZA fun Kx hK=>?_|(refine hK _ _ ?_;clear hK)|refine WC.region ?_|(apply ZF;(focus (first|exact wN|(apply SYG.yes;(exact wY);((first|exact ZCB|exact ZSR|exact ZQq|exact ZEn|exact Z4|exact ZEK|exact ZF3|fail);all_goals infer_instance))));dsimp only [ZB,z0,z1])|((first|refine ZM rfl rfl rfl (fun h=>?_) (fun h=>?_)|refine ZL rfl rfl rfl (fun h=>?_) (fun h=>?_)|refine ZK rfl rfl rfl (fun h=>?_) (fun h=>?_)) <;> (first|(exfalso;first|omega|contradiction)|(dsimp only [z0,z1])))|refine WC.ret ?_));all_goals (first|((repeat clear hK);(repeat clear Kx))))
 all_goals ((refine ⟨trivial,_,rfl,?_⟩;refine FinD.b ?_);unfold ZH0;simp [*])
theorem ZRz (x:Int):Fn Tryz.prog 116 [dI x] (dB false):=by
 (refine ZG Tryz.func116 rfl rfl ?_;simp only [Tryz.ntmps116,List.length_cons,List.length_nil,Nat.reduceAdd,Nat.reduceSub,List.replicate_succ,List.replicate_zero,List.cons_append,List.nil_append])
 ((repeat' (first|(apply WL.opN;exact yF;dsimp only [ZB,z0,z1])|refine WL.nil ?_|refine ZA fun Kx hK=>?_|(refine hK _ _ ?_;clear hK)|refine WC.region ?_|(apply WL.opN;(focus ((first|exact ZE0|fail);all_goals infer_instance));dsimp only [ZB,z0,z1])|refine WC.ret ?_));all_goals (first|((repeat clear hK);(repeat clear Kx))))
 all_goals ((refine ⟨trivial,_,rfl,?_⟩;refine FinD.b ?_);simp)
def ZRa (x y:Int):Int:=if x<y then -1 else if y<x then 1 else 0
theorem ZM2 (x y:Int):Fn Tryz.prog 85 [dI x,dI y] (dI (ZRa x y)):=by
 (refine ZG Tryz.func85 rfl rfl ?_;simp only [Tryz.ntmps85,List.length_cons,List.length_nil,Nat.reduceAdd,Nat.reduceSub,List.replicate_succ,List.replicate_zero,List.cons_append,List.nil_append])
 ((repeat' (first|(apply WL.opN;exact yF;dsimp only [ZB,z0,z1])|refine WL.nil ?_|refine ZA fun Kx hK=>?_|(refine hK _ _ ?_;clear hK)|refine WC.region ?_|(apply WL.opN;(focus ((first|(apply SY.call (ZRz _) Tryz.call116;(exact aD))|exact ZCB|exact ZHv|fail);all_goals infer_instance));dsimp only [ZB,z0,z1])|(apply Za;(exact oD);(with_reducible rfl))|(apply WC.condD;(exact oD);all_goals (intro h;try exact xD))|refine WC.skip ?_|refine WC.ret ?_|refine ThenD.r ?_));all_goals (first|((repeat clear hK);(repeat clear Kx))))
 all_goals ((refine ⟨trivial,_,rfl,?_⟩;refine FinD.i ?_);unfold ZRa;simp [*])
 all_goals omega
def orI:List Int->Int
 | []=>0
 | x::l=>if x=0 then orI l else x
theorem ZDV {l:List Int} {k:Nat} (h:k<l.length):orI (l.drop k)=if l[k]=0 then orI (l.drop (k+1)) else l[k]:=by
 rw [List.drop_eq_getElem_cons h];rfl
theorem ZR4 (l:List Int):Fn Tryz.prog 84 [dS ZBk l] (dI (orI l)):=by
 (refine ZG Tryz.func84 rfl rfl ?_;simp only [Tryz.ntmps84,List.length_cons,List.length_nil,Nat.reduceAdd,Nat.reduceSub,List.replicate_succ,List.replicate_zero,List.cons_append,List.nil_append])
 (repeat' (first|(apply WL.opN;exact yF;dsimp only [ZB,z0,z1])|refine WL.nil ?_|refine ZA fun Kx hK=>?_|(refine hK _ _ ?_;clear hK)|refine WC.region ?_|(apply WL.opN;(focus ((first|exact ZBw|fail);all_goals infer_instance));dsimp only [ZB,z0,z1])|refine WC.block ?_))
 (first|refine ZV (t:=0) rfl ZGA fun hl0=>?_|refine ZV (t:=0) rfl ZF5 fun hl0=>?_);simp only [maxLen] at hl0
 (refine ZH (X:=Nat) (fun k=>[(8,dI (k:Int)),(2,dA),(5,dA),(9,dA),(10,dA),(11,dA),(12,dA),(13,dA),(14,dA),(15,dA),(16,dA)]) (fun k=>[]) (fun k=>l.length-k) (fun k=>k≤l.length/\orI l=orI (l.drop k)) 0 ?start ?frame0 ?objs0 ?round)
 case start=>exact ⟨Nat.zero_le _,rfl⟩
 case frame0=>((try dsimp only [ZQ,z0,z1]);repeat (first|exact LeF.nil|refine ZD (k:=?_)))
 case objs0=>rfl
 case round =>
  rintro k ⟨h1,h2⟩
  dsimp only [ZQ,z0,z1]
  ((repeat' (first|(apply WL.opN;exact yF;dsimp only [ZB,z0,z1])|refine WL.nil ?_|refine ZA fun Kx hK=>?_|(refine hK _ _ ?_;clear hK)|(refine Kont.skip ?_;clear hK)|refine WC.region ?_|(apply WL.opN;(focus ((first|exact ZCB|exact ZE0|exact ZCu|exact ZS|fail);all_goals infer_instance));dsimp only [ZB,z0,z1])|(apply WC.condD;(exact oD);all_goals (intro h;try exact xD))|(apply WC.condN;(exact oD);all_goals (intro h;try exact xD))|refine WC.skip ?_|refine WC.ret ?_|refine WC.exit ?_|refine WC.block ?_|refine ThenD.n ?_|refine ThenD.r ?_|refine InBlockD.r ?_));all_goals (first|((repeat clear hK);(repeat clear Kx))))
  ·(refine ⟨trivial,_,rfl,?_⟩;refine FinD.i ?_)
   rw [h2,ZDV (by omega),if_neg h]
  ·(refine ⟨k+1,?_,by first|omega|(simp only;omega),rfl,?_⟩;rotate_left;((try dsimp only [ZQ,z0,z1]);repeat (first|exact LeF.nil|refine ZD (k:=?_)));(try dsimp only))
   exact ⟨by omega,by rw [h2,ZDV (by omega),if_pos h]⟩
  ·(refine ⟨trivial,_,rfl,?_⟩;refine FinD.i ?_)
   rw [h2,List.drop_of_length_le (by omega)];rfl
theorem orE_p (l:List Int):Fn Tryz.prog 102 [dS ZBk l] (dI (orI l)):=by
 (refine ZG Tryz.func102 rfl rfl ?_;simp only [Tryz.ntmps102,List.length_cons,List.length_nil,Nat.reduceAdd,Nat.reduceSub,List.replicate_succ,List.replicate_zero,List.cons_append,List.nil_append])
 (repeat' (first|(apply WL.opN;exact yF;dsimp only [ZB,z0,z1])|refine WL.nil ?_|refine ZA fun Kx hK=>?_|(refine hK _ _ ?_;clear hK)|refine WC.region ?_|(apply WL.opN;(focus ((first|exact ZBw|fail);all_goals infer_instance));dsimp only [ZB,z0,z1])|refine WC.block ?_))
 (first|refine ZV (t:=0) rfl ZGA fun hl0=>?_|refine ZV (t:=0) rfl ZF5 fun hl0=>?_);simp only [maxLen] at hl0
 (refine ZH (X:=Nat) (fun k=>[(8,dI (k:Int)),(2,dA),(5,dA),(9,dA),(10,dA),(11,dA),(12,dA),(13,dA),(14,dA),(15,dA),(16,dA)]) (fun k=>[]) (fun k=>l.length-k) (fun k=>k≤l.length/\orI l=orI (l.drop k)) 0 ?start ?frame0 ?objs0 ?round)
 case start=>exact ⟨Nat.zero_le _,rfl⟩
 case frame0=>((try dsimp only [ZQ,z0,z1]);repeat (first|exact LeF.nil|refine ZD (k:=?_)))
 case objs0=>rfl
 case round =>
  rintro k ⟨h1,h2⟩
  dsimp only [ZQ,z0,z1]
  ((repeat' (first|(apply WL.opN;exact yF;dsimp only [ZB,z0,z1])|refine WL.nil ?_|refine ZA fun Kx hK=>?_|(refine hK _ _ ?_;clear hK)|(refine Kont.skip ?_;clear hK)|refine WC.region ?_|(apply WL.opN;(focus ((first|exact ZCB|exact ZE0|exact ZCu|exact ZS|fail);all_goals infer_instance));dsimp only [ZB,z0,z1])|(apply WC.condD;(exact oD);all_goals (intro h;try exact xD))|(apply WC.condN;(exact oD);all_goals (intro h;try exact xD))|refine WC.skip ?_|refine WC.ret ?_|refine WC.exit ?_|refine WC.block ?_|refine ThenD.n ?_|refine ThenD.r ?_|refine InBlockD.r ?_));all_goals (first|((repeat clear hK);(repeat clear Kx))))
  ·(refine ⟨trivial,_,rfl,?_⟩;refine FinD.i ?_)
   rw [h2,ZDV (by omega),if_neg h]
  ·(refine ⟨k+1,?_,by first|omega|(simp only;omega),rfl,?_⟩;rotate_left;((try dsimp only [ZQ,z0,z1]);repeat (first|exact LeF.nil|refine ZD (k:=?_)));(try dsimp only))
   exact ⟨by omega,by rw [h2,ZDV (by omega),if_pos h]⟩
  ·(refine ⟨trivial,_,rfl,?_⟩;refine FinD.i ?_)
   rw [h2,List.drop_of_length_le (by omega)];rfl
theorem ZM4 (x y:Vx):orI [ZRa x.1 y.1,ZRa x.2 y.2]=ZCL x y:=by
 unfold ZCL ZRa orI orI orI
 repeat' split
 all_goals first|rfl|omega
theorem ZJt (x y:Vx):Fn Tryz.prog 55 [dS RV x,dS RV y] (dI (ZCL x y)):=by
 (refine ZG Tryz.func55 rfl rfl ?_;simp only [Tryz.ntmps55,List.length_cons,List.length_nil,Nat.reduceAdd,Nat.reduceSub,List.replicate_succ,List.replicate_zero,List.cons_append,List.nil_append])
 ((repeat' (first|((first|apply WL.opN|apply WD.opN);exact yF;dsimp only [ZB,z0,z1])|refine WL.nil ?_|refine WD.nil ?_|refine ZA fun Kx hK=>?_|(refine hK _ _ ?_;clear hK)|refine WC.region ?_|(apply WC.draw;kernel_rfl;kernel_rfl)|((first|apply WL.opN|apply WD.opN);(focus ((first|(apply SY.call (ZM2 _ _) Tryz.call85;(exact aD))|(apply SY.call (ZR4 [_,_]) Tryz.call84;(exact aD))|exact Z4|exact ZA4|exact ZF3|fail);all_goals infer_instance));dsimp only [ZB,z0,z1])|refine WC.ret ?_));all_goals (first|((repeat clear hK);(repeat clear Kx))))
 all_goals ((refine ⟨trivial,_,rfl,?_⟩;refine FinD.i ?_);exact ZM4 _ _)
set_option maxHeartbeats 4000000 in
theorem ZJZ (s:List Vx):Fn Tryz.prog 25 [dS ZJ s] (dI (ZAL s)):=by
 (refine ZG Tryz.func25 rfl rfl ?_;simp only [Tryz.ntmps25,List.length_cons,List.length_nil,Nat.reduceAdd,Nat.reduceSub,List.replicate_succ,List.replicate_zero,List.cons_append,List.nil_append])
 ((repeat' (first|((first|apply WL.opN|apply WD.opN);exact yF;dsimp only [ZB,z0,z1])|refine WL.nil ?_|refine ZA fun Kx hK=>?_|(refine hK _ _ ?_;clear hK)|refine WC.region ?_|((first|apply ZF|apply WD.op);(focus (first|exact wN|(apply SYG.yes;(exact wY);((first|exact ZHv|exact ZQp|exact ZBw|fail);all_goals infer_instance))));dsimp only [ZB,z0,z1])|(apply WC.condD;(exact oD);all_goals (intro h;try exact xD))|refine WC.skip ?_|refine WC.ret ?_|refine WC.block ?_|refine ThenD.r ?_|refine InBlockD.r ?_));all_goals (first|refine WC.id ?_|((repeat clear hK);(repeat clear Kx))))
 ·(refine ⟨trivial,_,rfl,?_⟩;refine FinD.i ?_)
  unfold ZAL;rw [if_pos (by omega)]
 ·(refine ⟨trivial,_,rfl,?_⟩;refine FinD.i ?_)
  unfold ZAL;rw [if_neg (by omega),if_pos (by omega)]
 ·rename_i h1 h2
  have hs:ZAL s=ZL1 none s:=by unfold ZAL;rw [if_neg (by omega),if_neg (by omega)]
  (refine ZH (X:=Nat) (fun k=>[(15,dI (k:Int)),(2,dA),(3,dA),(4,dA),(16,dA),(17,dA),(18,dA),(19,dA),(20,dA),(21,dA),(22,dA),(23,dA),(24,dA),(25,dA),(26,dA),(27,dA),(28,dA),(29,dA),(30,dA),(31,dA),(32,dA),(33,dA),(34,dA),(35,dA)]) (fun k=>[]) (fun k=>s.length-k) (fun k=>k≤s.length/\ZAL s=ZL1 (s.take k).getLast? (s.drop k)) 0 ?start ?frame0 ?objs0 ?round)
  case start=>exact ⟨Nat.zero_le _,by rw [hs];rfl⟩
  case frame0=>((try dsimp only [ZQ,z0,z1]);repeat (first|exact LeF.nil|refine ZD (k:=?_)))
  case objs0=>rfl
  case round =>
   rintro k ⟨h3,h4⟩
   dsimp only [ZQ,z0,z1]
   ((repeat' (first|((first|apply WL.opN|apply WD.opN);exact yF;dsimp only [ZB,z0,z1])|refine WL.nil ?_|refine WD.nil ?_|refine ZA fun Kx hK=>?_|(refine hK _ _ ?_;clear hK)|(refine Kont.skip ?_;clear hK)|refine WC.region ?_|(apply WC.draw;kernel_rfl;kernel_rfl)|(apply WL.alloc;(exact tzV);(first|exact ZZ rfl|exact Zw);(intro _;dsimp only [ZB,z0,z1]))|(apply ZI;(exact tD);rfl;(exact oD);(exact hD);dsimp only [ZB,z0,z1])|((first|apply ZF|apply WD.op);(focus (first|exact wN|(apply SYG.yes;(exact wY);((first|(apply SY.call (ZJt _ _) Tryz.call55;(exact aD))|(apply SY.call (ZLm _) Tryz.call54;(exact aD))|(apply ZEM elV (OpD.t rfl) (OpD.t rfl) (k-1);omega;omega)|exact ZDe|exact ZCB|exact ZHv|exact ZQq|exact ZOr|exact ZCu|exact ZRJ|exact ZEn|exact ZS|exact ZEK|fail);all_goals infer_instance))));dsimp only [ZB,z0,z1])|((first|refine ZM rfl rfl rfl (fun h=>?_) (fun h=>?_)|refine ZL rfl rfl rfl (fun h=>?_) (fun h=>?_)|refine ZK rfl rfl rfl (fun h=>?_) (fun h=>?_)|refine Zp rfl rfl rfl (fun h=>?_) (fun h=>?_)|refine Zo rfl rfl rfl (fun h=>?_) (fun h=>?_)|refine Zl rfl rfl rfl (fun h=>?_) (fun h=>?_)) <;> (first|(exfalso;first|omega|contradiction)|(dsimp only [z0,z1])))|(apply Za;(exact oD);(with_reducible rfl))|(apply WC.condD;(exact oD);all_goals (intro h;try exact xD))|(apply WC.condNB;(exact oD);all_goals (intro h;try exact xD))|refine WC.skip ?_|refine WC.ret ?_|refine WC.exit ?_|refine WC.block ?_|refine ThenD.n ?_|refine ThenD.r ?_|refine InBlockD.r ?_));all_goals (first|((repeat clear hK);(repeat clear Kx))))
   all_goals try (rw [ZIX s k (by omega)] at h4)
   ·(refine ⟨trivial,_,rfl,?_⟩;refine FinD.i ?_)
    rw [h4,if_pos h]
   ·(refine ⟨trivial,_,rfl,?_⟩;refine FinD.i ?_)
    have h5:ZH0 s[k]=true:=by assumption
    rw [h4,if_neg (by simp [h5]),ZD7 _ _ (by omega) (by omega),if_pos (by simpa using h)]
   ·(refine ⟨k+1,?_,by first|omega|(simp only;omega),rfl,?_⟩;rotate_left;((try dsimp only [ZQ,z0,z1]);repeat (first|exact LeF.nil|refine ZD (k:=?_)));(try dsimp only))
    refine ⟨by omega,?_⟩
    have h5:ZH0 s[k]=true:=by assumption
    rw [h4,if_neg (by simp [h5]),ZD7 _ _ (by omega) (by omega),if_neg (by simpa using h)]
   ·(refine ⟨k+1,?_,by first|omega|(simp only;omega),rfl,?_⟩;rotate_left;((try dsimp only [ZQ,z0,z1]);repeat (first|exact LeF.nil|refine ZD (k:=?_)));(try dsimp only))
    refine ⟨by omega,?_⟩
    have h5:ZH0 s[k]=true:=by assumption
    have h0:(s.take k).getLast?=none:=by
     have:k=0:=by omega
     rw [this];rfl
    rw [h4,if_neg (by simp [h5]),h0]
    rfl
   ·(refine ⟨trivial,_,rfl,?_⟩;refine FinD.i ?_)
    rw [h4,List.drop_of_length_le (by omega)]
    rfl
theorem ZSW (a b:List Vx):Fn Tryz.prog 78 [dS ZJ a,dS ZJ b] (dI (orI [ZAL a,ZAL b])):=by
 (refine ZG Tryz.func78 rfl rfl ?_;simp only [Tryz.ntmps78,List.length_cons,List.length_nil,Nat.reduceAdd,Nat.reduceSub,List.replicate_succ,List.replicate_zero,List.cons_append,List.nil_append])
 ((repeat' (first|(apply WL.opN;exact yF;dsimp only [ZB,z0,z1])|refine WL.nil ?_|refine ZA fun Kx hK=>?_|(refine hK _ _ ?_;clear hK)|refine WC.region ?_|(apply WL.opN;(focus ((first|(apply SY.call (ZJZ _) Tryz.call25;(exact aD))|(apply SY.call (orE_p [_,_]) Tryz.call102;(exact aD))|exact ZA4|fail);all_goals infer_instance));dsimp only [ZB,z0,z1])|refine WC.ret ?_));all_goals (first|((repeat clear hK);(repeat clear Kx))))
 all_goals (refine ⟨trivial,_,rfl,?_⟩;exact fD)

end
section
open Go.RowKit

abbrev ZSh (p:Vx->Bool):Dat:=ZKS Tryz.prog (fun v=>[dS RV v]) (fun v=>dB (p v))
def ZJj {α:Type} (p:α->Bool):Nat->List α->Int
 | _,[]=>-1
 | k,x::l=>if p x=true then (k:Int) else ZJj p (k+1) l
theorem ZCY {α:Type} {p:α->Bool} {l:List α} {k:Nat} (h:k<l.length):ZJj p k (l.drop k)=if p l[k]=true then (k:Int) else ZJj p (k+1) (l.drop (k+1)):=by
 rw [List.drop_eq_getElem_cons h];rfl
theorem ZFD {α:Type} {p:α->Bool}:∀ (l:List α) (k:Nat),decide (0≤ZJj p k l)=l.any p
 | [],k=>by simp [ZJj]
 | x::l,k=>by
  unfold ZJj
  rw [List.any_cons]
  split
  ·rename_i h;rw [h];simp
  ·rename_i h;rw [ZFD l];simp [h]
theorem idx_p (l:List Vx) (v:Vx):Fn Tryz.prog 130 [dS ZJ l,dS RV v] (dI (ZJj (fun y=>decide (v=y)) 0 l)):=by
 (refine ZG Tryz.func130 rfl rfl ?_;simp only [Tryz.ntmps130,List.length_cons,List.length_nil,Nat.reduceAdd,Nat.reduceSub,List.replicate_succ,List.replicate_zero,List.cons_append,List.nil_append])
 (repeat' (first|((first|apply WL.opN|apply WD.opN);exact yF;dsimp only [ZB,z0,z1])|refine WL.nil ?_|refine ZA fun Kx hK=>?_|(refine hK _ _ ?_;clear hK)|refine WC.region ?_|((first|apply WL.opN|apply WD.opN);(focus ((first|exact ZBw|exact ZF3|fail);all_goals infer_instance));dsimp only [ZB,z0,z1])|refine WC.block ?_))
 (first|refine ZV (t:=0) rfl ZGA fun hl0=>?_|refine ZV (t:=0) rfl ZF5 fun hl0=>?_);simp only [maxLen] at hl0
 (refine ZH (X:=Nat) (fun k=>[(8,dI (k:Int)),(4,dA),(5,dA),(9,dA),(10,dA),(11,dA),(12,dA),(13,dA),(14,dA),(15,dA),(16,dA),(17,dA),(18,dA)]) (fun k=>[]) (fun k=>l.length-k) (fun k=>k≤l.length/\ZJj (fun y=>decide (v=y)) 0 l=ZJj (fun y=>decide (v=y)) k (l.drop k)) 0 ?start ?frame0 ?objs0 ?round)
 case start=>exact ⟨Nat.zero_le _,rfl⟩
 case frame0=>((try dsimp only [ZQ,z0,z1]);repeat (first|exact LeF.nil|refine ZD (k:=?_)))
 case objs0=>rfl
 case round =>
  rintro k ⟨h1,h2⟩
  dsimp only [ZQ,z0,z1]
  ((repeat' (first|((first|apply WL.opN|apply WD.opN);exact yF;dsimp only [ZB,z0,z1])|refine WL.nil ?_|refine WD.nil ?_|refine ZA fun Kx hK=>?_|(refine hK _ _ ?_;clear hK)|(refine Kont.skip ?_;clear hK)|refine WC.region ?_|(apply WC.draw;kernel_rfl;kernel_rfl)|((first|apply WL.opN|apply WD.opN);(focus ((first|exact ZCB|exact ZQp|exact ZCu|exact ZS|fail);all_goals infer_instance));dsimp only [ZB,z0,z1])|(apply WC.condD;(exact oD);all_goals (intro h;try exact xD))|refine WC.skip ?_|refine WC.ret ?_|refine WC.exit ?_|refine WC.block ?_|refine ThenD.n ?_|refine ThenD.r ?_|refine InBlockD.r ?_));all_goals (first|((repeat clear hK);(repeat clear Kx))))
  ·(refine ⟨trivial,_,rfl,?_⟩;refine FinD.i ?_)
   rw [h2,ZCY (by omega),if_pos (by simpa using h)]
  ·(refine ⟨k+1,?_,by first|omega|(simp only;omega),rfl,?_⟩;rotate_left;((try dsimp only [ZQ,z0,z1]);repeat (first|exact LeF.nil|refine ZD (k:=?_)));(try dsimp only))
   exact ⟨by omega,by rw [h2,ZCY (by omega),if_neg (by simpa using h)]⟩
  ·(refine ⟨trivial,_,rfl,?_⟩;refine FinD.i ?_)
   rw [h2,List.drop_of_length_le (by omega)];rfl
theorem cnt_p (l:List Vx) (v:Vx):Fn Tryz.prog 104 [dS ZJ l,dS RV v] (dB (decide (v∈l))):=by
 (refine ZG Tryz.func104 rfl rfl ?_;simp only [Tryz.ntmps104,List.length_cons,List.length_nil,Nat.reduceAdd,Nat.reduceSub,List.replicate_succ,List.replicate_zero,List.cons_append,List.nil_append])
 ((repeat' (first|(apply WL.opN;exact yF;dsimp only [ZB,z0,z1])|refine WL.nil ?_|refine ZA fun Kx hK=>?_|(refine hK _ _ ?_;clear hK)|refine WC.region ?_|(apply WL.opN;(focus ((first|(apply SY.call (idx_p _ _) Tryz.call130;(exact aD))|exact ZQq|exact ZF3|fail);all_goals infer_instance));dsimp only [ZB,z0,z1])|refine WC.ret ?_));all_goals (first|((repeat clear hK);(repeat clear Kx))))
 all_goals ((refine ⟨trivial,_,rfl,?_⟩;refine FinD.b ?_);rw [ZFD])
 all_goals (rw [Bool.eq_iff_iff];simp)
theorem inV_p (v:Vx) (s:List Vx):Fn Tryz.prog 103 ([dS RV v]++[dP 1 false (dS ZJ s)]) (dB (decide (v∈s))):=by
 show Fn Tryz.prog 103 [dS RV v,dP 1 false (dS ZJ s)] (dB (decide (v∈s)))
 (refine ZG Tryz.func103 rfl rfl ?_;simp only [Tryz.ntmps103,List.length_cons,List.length_nil,Nat.reduceAdd,Nat.reduceSub,List.replicate_succ,List.replicate_zero,List.cons_append,List.nil_append])
 ((repeat' (first|(apply WL.opN;exact yF;dsimp only [ZB,z0,z1])|refine WL.nil ?_|refine ZA fun Kx hK=>?_|(refine hK _ _ ?_;clear hK)|refine WC.region ?_|(apply WL.opN;(focus ((first|(apply SY.call (cnt_p _ _) Tryz.call104;(exact aD))|exact ZF3|fail);all_goals infer_instance));dsimp only [ZB,z0,z1])|refine WC.ret ?_));all_goals (first|((repeat clear hK);(repeat clear Kx))))
 all_goals (refine ⟨trivial,_,rfl,?_⟩;exact fD)
theorem in_p (s:List Vx):Fn Tryz.prog 80 [dS ZJ s] (ZSh fun v=>decide (v∈s)):=by
 (refine ZG Tryz.func80 rfl rfl ?_;simp only [Tryz.ntmps80,List.length_cons,List.length_nil,Nat.reduceAdd,Nat.reduceSub,List.replicate_succ,List.replicate_zero,List.cons_append,List.nil_append])
 ((repeat' (first|(apply WL.opN;exact yF;dsimp only [ZB,z0,z1])|refine WL.nil ?_|refine ZA fun Kx hK=>?_|(refine hK _ _ ?_;clear hK)|refine WC.region ?_|(apply WL.opN;(focus ((first|(apply ZCU (A:=fun v=>[dS RV v]) (r:=fun v=>dB (decide (v∈s))) Tryz.call103 (fun v=>inV_p v s) (fun _=>ZEo);(exact aD))|exact ZF3|fail);all_goals infer_instance));dsimp only [ZB,z0,z1])|refine WC.ret ?_));all_goals (first|((repeat clear hK);(repeat clear Kx))))
 all_goals (refine ⟨trivial,_,rfl,?_⟩;exact fD)
end
section
open Go.RowKit

abbrev ZNF (s:List Vx) (p:Vx->Bool):Dat:=ZKS Tryz.prog (fun v:{v:Vx // v∈s}=>[dS RV v.1]) (fun v=>dB (p v.1))
theorem ZNb {s:List Vx} {p:Vx->Bool}:(ZSh p).le (ZNF s p):=fun _ _ _ ⟨f,cap,h1,h0,h2⟩=>⟨f,cap,h1,h0,fun w' hw' x=>h2 w' hw' x.1⟩
set_option maxHeartbeats 1000000 in
theorem ZSx (s:List Vx) (p:Vx->Bool) (hl:s.length≤100):Fn Tryz.prog 79 [dS ZJ s,ZNF s p] (dS ZJ (s.filter p)):=by
 (refine ZG Tryz.func79 rfl rfl ?_;simp only [Tryz.ntmps79,List.length_cons,List.length_nil,Nat.reduceAdd,Nat.reduceSub,List.replicate_succ,List.replicate_zero,List.cons_append,List.nil_append])
 (repeat' (first|(apply WL.opN;exact yF;dsimp only [ZB,z0,z1])|refine WL.nil ?_|refine ZA fun Kx hK=>?_|(refine hK _ _ ?_;clear hK)|refine WC.region ?_|(apply WL.opN;(focus ((first|exact ZBw|fail);all_goals infer_instance));dsimp only [ZB,z0,z1])|refine WC.block ?_))
 refine ZEN 47 2 (by decide) RV ?_
 (refine ZH (X:=Nat × Value) (fun x=>[(5,dX x.2),(10,dI (x.1:Int)),(7,dA),(11,dA),(12,dA),(13,dA),(14,dA),(15,dA),(16,dA),(17,dA),(18,dA),(19,dA),(20,dA),(21,dA)]) (fun x=>[Zg x.2 47 2 RV ((s.take x.1).filter p)]) (fun x=>s.length-x.1) (fun x=>x.1≤s.length) (0,.slice none 0 0) ?start ?frame0 ?objs0 ?round)
 case start=>simp
 case frame0=>((try dsimp only [ZQ,z0,z1]);repeat (first|exact LeF.nil|refine ZD (k:=?_)))
 case objs0=>rfl
 case round =>
  rintro ⟨k,u⟩ h1
  dsimp only [ZQ,z0,z1]
  simp only at h1
  have h2:((s.take k).filter p).length≤1000:=Nat.le_trans (List.length_filter_le _ _) (Nat.le_trans (List.length_take_le _ _) (by omega))
  ((repeat' (first|(apply WL.opN;exact yF;dsimp only [ZB,z0,z1])|refine WL.nil ?_|refine ZA fun Kx hK=>?_|(refine hK _ _ ?_;clear hK)|(refine Kont.skip ?_;clear hK)|refine WC.region ?_|((first|apply Z1|apply Zv);(exact eD);exact OpD.t rfl;(exact oD);(intro _;exact hD);(exact (by simp));(exact (by simp));(first|exact ⟨by decide,by decide⟩|skip);decide;(exact lD);(intro _;dsimp only [ZB,z0,z1]);all_goals (try infer_instance))|(apply WL.alloc;(exact tzV);(first|exact ZZ rfl|exact Zw);(intro _;dsimp only [ZB,z0,z1]))|(apply ZI;(exact tD);rfl;(exact oD);(exact hD);dsimp only [ZB,z0,z1])|(apply WL.opN;(focus ((first|(apply ZAu (x:=(⟨s[k],List.getElem_mem _⟩:{v:Vx // v∈s}));(exact OpD.t rfl);(exact aD))|exact ZCB|exact ZCu|exact ZS|fail);all_goals infer_instance));dsimp only [ZB,z0,z1])|(apply WC.condD;(exact oD);all_goals (intro h;try exact xD))|(apply WC.cond;(exact oD);all_goals (intro h;try exact xD))|refine WC.skip ?_|refine WC.ret ?_|refine WC.exit ?_|refine WC.block ?_|refine ThenD.n ?_));all_goals (first|((repeat clear hK);(repeat clear Kx))))
  ·(refine ⟨(k+1,_) , ?_,by first|omega|(simp only;omega),by ((try simp only);  (rw [ZFh (by omega),if_pos h])),?_⟩;rotate_left;((try dsimp only [ZQ,z0,z1]);repeat (first|exact LeF.nil|refine ZD (k:=?_)));(try dsimp only))
   omega
  ·(refine ⟨(k+1,_) , ?_,by first|omega|(simp only;omega),by ((try simp only);  (rw [ZFh (by omega),if_neg (by simp [h]),List.append_nil])),?_⟩;rotate_left;((try dsimp only [ZQ,z0,z1]);repeat (first|exact LeF.nil|refine ZD (k:=?_)));(try dsimp only))
   omega
  ·(refine ⟨trivial,_,rfl,?_⟩;refine ZDL (.head _) ?_)
   rw [List.take_of_length_le (by omega)]
theorem ZSl (a b:List Vx) (hl:a.length≤100):Fn Tryz.prog 48 [dS ZJ a,dS ZJ b] (dT [dB (if orI [ZAL a,ZAL b]≠0 then false else decide (((a.filter fun x=>decide (x∈b)).length:Int)=a.length)),dI (orI [ZAL a,ZAL b])]):=by
 (refine Z7 Tryz.func48 rfl rfl ?_;simp only [Tryz.ntmps48,List.length_cons,List.length_nil,Nat.reduceAdd,Nat.reduceSub,List.replicate_succ,List.replicate_zero,List.cons_append,List.nil_append])
 ((repeat' (first|(apply WL.opN;exact yF;dsimp only [ZB,z0,z1])|refine WL.nil ?_|refine ZA fun Kx hK=>?_|(refine hK _ _ ?_;clear hK)|refine WC.region ?_|(apply WL.opN;(focus ((first|(apply SY.call (ZSW _ _) Tryz.call78;(exact aD))|(apply SY.call (in_p _) Tryz.call80;(exact aD))|(apply SY.call (ZSx _ _ hl) Tryz.call79;(exact aD))|exact ZQp|exact ZE0|exact ZBw|fail);all_goals infer_instance));dsimp only [ZB,z0,z1])|(apply WC.condN;(exact oD);all_goals (intro h;try exact xD))|refine WC.skip ?_|refine WC.ret ?_|refine ThenD.r ?_));all_goals (first|((repeat clear hK);(repeat clear Kx))))
 all_goals ((refine ⟨trivial,⟨_,rfl,?_⟩,_,rfl,?_⟩ <;> (first|exact fD|refine FinD.i ?_|refine FinD.b ?_)) <;> simp_all)
end
section
open Go.RowKit

theorem ZQy (x y:Vx):Fn Tryz.prog 58 [dS RV x,dS RV y] (dI (ZCL x y)):=by
 (refine ZG Tryz.func58 rfl rfl ?_;simp only [Tryz.ntmps58,List.length_cons,List.length_nil,Nat.reduceAdd,Nat.reduceSub,List.replicate_succ,List.replicate_zero,List.cons_append,List.nil_append])
 ((repeat' (first|(apply WL.opN;exact yF;dsimp only [ZB,z0,z1])|refine WL.nil ?_|refine ZA fun Kx hK=>?_|(refine hK _ _ ?_;clear hK)|refine WC.region ?_|(apply WL.opN;(focus ((first|exact ZCB|exact ZHv|exact Z4|exact ZF3|fail);all_goals infer_instance));dsimp only [ZB,z0,z1])|(apply WC.condD;(exact oD);all_goals (intro h;try exact xD))|refine WC.skip ?_|refine WC.ret ?_|refine WC.block ?_|refine ThenD.r ?_|refine InBlockD.r ?_));all_goals (first|((repeat clear hK);(repeat clear Kx))))
 all_goals ((refine ⟨trivial,_,rfl,?_⟩;refine FinD.i ?_);unfold ZCL;simp [*])
theorem ZTA (x:Vx):Fn Tryz.prog 57 [dS RV x] (dB (ZH0 x)):=by
 (refine ZG Tryz.func57 rfl rfl ?_;simp only [Tryz.ntmps57,List.length_cons,List.length_nil,Nat.reduceAdd,Nat.reduceSub,List.replicate_succ,List.replicate_zero,List.cons_append,List.nil_append])
 ((repeat' (first|(apply WL.opN;exact yF;dsimp only [ZB,z0,z1])|refine WL.nil ?_|refine ZA fun Kx hK=>?_|(refine hK _ _ ?_;clear hK)|refine WC.region ?_|(apply ZF;(focus (first|exact wN|(apply SYG.yes;(exact wY);((first|exact ZCB|exact ZSR|exact ZQq|exact ZEn|exact Z4|exact ZEK|exact ZF3|fail);all_goals infer_instance))));dsimp only [ZB,z0,z1])|((first|refine ZM rfl rfl rfl (fun h=>?_) (fun h=>?_)|refine ZL rfl rfl rfl (fun h=>?_) (fun h=>?_)|refine ZK rfl rfl rfl (fun h=>?_) (fun h=>?_)) <;> (first|(exfalso;first|omega|contradiction)|(dsimp only [z0,z1])))|refine WC.ret ?_));all_goals (first|((repeat clear hK);(repeat clear Kx))))
 all_goals ((refine ⟨trivial,_,rfl,?_⟩;refine FinD.b ?_);unfold ZH0;simp [*])
theorem few_c (s:List Vx):Fn Tryz.prog 56 [dS ZJ s] (dB (decide ((s.length:Int)≤10))):=by
 (refine ZG Tryz.func56 rfl rfl ?_;simp only [Tryz.ntmps56,List.length_cons,List.length_nil,Nat.reduceAdd,Nat.reduceSub,List.replicate_succ,List.replicate_zero,List.cons_append,List.nil_append])
 ((repeat' (first|(apply WL.opN;exact yF;dsimp only [ZB,z0,z1])|refine WL.nil ?_|refine ZA fun Kx hK=>?_|(refine hK _ _ ?_;clear hK)|refine WC.region ?_|(apply WL.opN;(focus ((first|exact ZSR|exact ZBw|fail);all_goals infer_instance));dsimp only [ZB,z0,z1])|refine WC.ret ?_));all_goals (first|((repeat clear hK);(repeat clear Kx))))
 all_goals (refine ⟨trivial,_,rfl,?_⟩;exact fD)
set_option maxHeartbeats 4000000 in
theorem ZSa (a b:List Vx):Fn Tryz.prog 29 [dS ZJ a,dS ZJ b] (dI (ZAB a b)):=by
 (refine ZG Tryz.func29 rfl rfl ?_;simp only [Tryz.ntmps29,List.length_cons,List.length_nil,Nat.reduceAdd,Nat.reduceSub,List.replicate_succ,List.replicate_zero,List.cons_append,List.nil_append])
 (repeat' (first|((first|apply WL.opN|apply WD.opN);exact yF;dsimp only [ZB,z0,z1])|refine WL.nil ?_|refine ZA fun Kx hK=>?_|(refine hK _ _ ?_;clear hK)|refine WC.region ?_|refine WC.block ?_))
 (first|refine ZV (t:=0) rfl ZGA fun hl0=>?_|refine ZV (t:=0) rfl ZF5 fun hl0=>?_);simp only [maxLen] at hl0
 (first|refine ZV (t:=1) rfl ZGA fun hl1=>?_|refine ZV (t:=1) rfl ZF5 fun hl1=>?_);simp only [maxLen] at hl1
 (refine ZH (X:=Nat) (fun k=>[(5,dI (k:Int)),(4,dA),(6,dA),(7,dA),(8,dA),(9,dA),(10,dA),(11,dA),(12,dA),(13,dA),(14,dA),(15,dA),(16,dA),(17,dA),(18,dA),(19,dA),(20,dA),(21,dA),(22,dA),(23,dA),(24,dA),(25,dA),(26,dA),(27,dA),(28,dA),(29,dA),(30,dA)]) (fun k=>[]) (fun k=>a.length-k) (fun k=>k≤a.length/\k≤b.length/\ZAB a b=ZAB (a.drop k) (b.drop k)) 0 ?start ?frame0 ?objs0 ?round)
 case start=>exact ⟨Nat.zero_le _,Nat.zero_le _,rfl⟩
 case frame0=>((try dsimp only [ZQ,z0,z1]);repeat (first|exact LeF.nil|refine ZD (k:=?_)))
 case objs0=>rfl
 case round =>
  rintro k ⟨h1,h2,h3⟩
  dsimp only [ZQ,z0,z1]
  ((repeat' (first|((first|apply WL.opN|apply WD.opN);exact yF;dsimp only [ZB,z0,z1])|refine WL.nil ?_|refine WD.nil ?_|refine ZA fun Kx hK=>?_|(refine hK _ _ ?_;clear hK)|(refine Kont.skip ?_;clear hK)|refine WC.region ?_|(apply WC.draw;kernel_rfl;kernel_rfl)|((first|apply ZF|apply WD.op);(focus (first|exact wN|(apply SYG.yes;(exact wY);((first|(apply SY.call (ZQy _ _) Tryz.call58;(exact aD))|exact ZDe|exact ZCB|exact ZHv|exact ZE0|exact ZCu|exact ZBw|exact ZS|exact ZEK|fail);all_goals infer_instance))));dsimp only [ZB,z0,z1])|((first|refine ZM rfl rfl rfl (fun h=>?_) (fun h=>?_)|refine ZL rfl rfl rfl (fun h=>?_) (fun h=>?_)|refine ZK rfl rfl rfl (fun h=>?_) (fun h=>?_)|refine Zp rfl rfl rfl (fun h=>?_) (fun h=>?_)|refine Zo rfl rfl rfl (fun h=>?_) (fun h=>?_)|refine Zl rfl rfl rfl (fun h=>?_) (fun h=>?_)) <;> (first|(exfalso;first|omega|contradiction)|(dsimp only [z0,z1])))|(apply Za;(exact oD);(with_reducible rfl))|(apply WC.condD;(exact oD);all_goals (intro h;try exact xD))|(apply WC.condN;(exact oD);all_goals (intro h;try exact xD))|refine WC.skip ?_|refine WC.ret ?_|refine WC.exit ?_|refine WC.block ?_|refine ThenD.n ?_|refine ThenD.r ?_|refine InBlockD.r ?_));all_goals (first|((repeat clear hK);(repeat clear Kx))))
  all_goals first
   | ((refine ⟨k+1,?_,by first|omega|(simp only;omega),rfl,?_⟩;rotate_left;((try dsimp only [ZQ,z0,z1]);repeat (first|exact LeF.nil|refine ZD (k:=?_)));(try dsimp only));exact ⟨by omega,by omega,h3.trans (ZFZ (by omega) (by omega) (by assumption))⟩)
   | ((refine ⟨trivial,_,rfl,?_⟩;refine FinD.i ?_);rw [h3,ZD2];repeat' split) <;> first|rfl|contradiction|omega
theorem has_c (s:List Vx) (v:Vx):Fn Tryz.prog 59 [dS ZJ s,dS RV v] (dB (decide (v∈s))):=by
 (refine ZG Tryz.func59 rfl rfl ?_;simp only [Tryz.ntmps59,List.length_cons,List.length_nil,Nat.reduceAdd,Nat.reduceSub,List.replicate_succ,List.replicate_zero,List.cons_append,List.nil_append])
 (repeat' (first|((first|apply WL.opN|apply WD.opN);exact yF;dsimp only [ZB,z0,z1])|refine WL.nil ?_|refine ZA fun Kx hK=>?_|(refine hK _ _ ?_;clear hK)|refine WC.region ?_|((first|apply WL.opN|apply WD.opN);(focus ((first|exact ZF3|fail);all_goals infer_instance));dsimp only [ZB,z0,z1])|refine WC.block ?_))
 (first|refine ZV (t:=0) rfl ZGA fun hl0=>?_|refine ZV (t:=0) rfl ZF5 fun hl0=>?_);simp only [maxLen] at hl0
 (refine ZH (X:=Nat) (fun k=>[(5,dI (k:Int)),(4,dA),(6,dA),(7,dA),(8,dA),(9,dA),(10,dA),(11,dA),(12,dA),(13,dA),(14,dA),(15,dA),(16,dA),(17,dA)]) (fun k=>[]) (fun k=>s.length-k) (fun k=>k≤s.length/\v∉s.take k) 0 ?start ?frame0 ?objs0 ?round)
 case start=>simp
 case frame0=>((try dsimp only [ZQ,z0,z1]);repeat (first|exact LeF.nil|refine ZD (k:=?_)))
 case objs0=>rfl
 case round =>
  rintro k ⟨h1,h2⟩
  dsimp only [ZQ,z0,z1]
  ((repeat' (first|((first|apply WL.opN|apply WD.opN);exact yF;dsimp only [ZB,z0,z1])|refine WL.nil ?_|refine WD.nil ?_|refine ZA fun Kx hK=>?_|(refine hK _ _ ?_;clear hK)|(refine Kont.skip ?_;clear hK)|refine WC.region ?_|(apply WC.draw;kernel_rfl;kernel_rfl)|((first|apply WL.opN|apply WD.opN);(focus ((first|exact ZCB|exact ZQp|exact ZCu|exact ZBw|exact ZS|fail);all_goals infer_instance));dsimp only [ZB,z0,z1])|(apply WC.condD;(exact oD);all_goals (intro h;try exact xD))|refine WC.skip ?_|refine WC.ret ?_|refine WC.exit ?_|refine WC.block ?_|refine ThenD.n ?_|refine ThenD.r ?_|refine InBlockD.r ?_));all_goals (first|((repeat clear hK);(repeat clear Kx))))
  ·(refine ⟨trivial,_,rfl,?_⟩;refine FinD.b ?_)
   rename_i h
   rw [<- h];simp
  ·(refine ⟨k+1,?_,by first|omega|(simp only;omega),rfl,?_⟩;rotate_left;((try dsimp only [ZQ,z0,z1]);repeat (first|exact LeF.nil|refine ZD (k:=?_)));(try dsimp only))
   rename_i h
   exact ⟨by omega,fun hm=>by rcases (ZBt (by omega)).1 hm with h'|h';exact h2 h';exact h h'.symm⟩
  ·(refine ⟨trivial,_,rfl,?_⟩;refine FinD.b ?_)
   rw [List.take_of_length_le (by omega)] at h2
   simp [h2]
set_option maxHeartbeats 4000000 in
theorem chk_c (s:List Vx):Fn Tryz.prog 28 [dS ZJ s] (dI (ZAL s)):=by
 (refine ZG Tryz.func28 rfl rfl ?_;simp only [Tryz.ntmps28,List.length_cons,List.length_nil,Nat.reduceAdd,Nat.reduceSub,List.replicate_succ,List.replicate_zero,List.cons_append,List.nil_append])
 ((repeat' (first|((first|apply WL.opN|apply WD.opN);exact yF;dsimp only [ZB,z0,z1])|refine WL.nil ?_|refine ZA fun Kx hK=>?_|(refine hK _ _ ?_;clear hK)|refine WC.region ?_|((first|apply ZF|apply WD.op);(focus (first|exact wN|(apply SYG.yes;(exact wY);((first|exact ZHv|exact ZQp|exact ZBw|fail);all_goals infer_instance))));dsimp only [ZB,z0,z1])|(apply WC.condD;(exact oD);all_goals (intro h;try exact xD))|refine WC.skip ?_|refine WC.ret ?_|refine WC.block ?_|refine ThenD.r ?_|refine InBlockD.r ?_));all_goals (first|refine WC.id ?_|((repeat clear hK);(repeat clear Kx))))
 ·(refine ⟨trivial,_,rfl,?_⟩;refine FinD.i ?_)
  unfold ZAL;rw [if_pos (by omega)]
 ·(refine ⟨trivial,_,rfl,?_⟩;refine FinD.i ?_)
  unfold ZAL;rw [if_neg (by omega),if_pos (by omega)]
 ·rename_i h1 h2
  have hs:ZAL s=ZL1 none s:=by unfold ZAL;rw [if_neg (by omega),if_neg (by omega)]
  (refine ZH (X:=Nat) (fun k=>[(3,dI (k:Int)),(2,dA),(12,dA),(13,dA),(14,dA),(15,dA),(16,dA),(17,dA),(18,dA),(19,dA),(20,dA),(21,dA),(22,dA),(23,dA),(24,dA),(25,dA),(26,dA),(27,dA),(28,dA),(29,dA),(30,dA),(31,dA),(32,dA),(33,dA),(34,dA),(35,dA),(36,dA),(37,dA),(38,dA)]) (fun k=>[]) (fun k=>s.length-k) (fun k=>k≤s.length/\ZAL s=ZL1 (s.take k).getLast? (s.drop k)) 0 ?start ?frame0 ?objs0 ?round)
  case start=>exact ⟨Nat.zero_le _,by rw [hs];rfl⟩
  case frame0=>((try dsimp only [ZQ,z0,z1]);repeat (first|exact LeF.nil|refine ZD (k:=?_)))
  case objs0=>rfl
  case round =>
   rintro k ⟨h3,h4⟩
   dsimp only [ZQ,z0,z1]
   ((repeat' (first|((first|apply WL.opN|apply WD.opN);exact yF;dsimp only [ZB,z0,z1])|refine WL.nil ?_|refine WD.nil ?_|refine ZA fun Kx hK=>?_|(refine hK _ _ ?_;clear hK)|(refine Kont.skip ?_;clear hK)|refine WC.region ?_|(apply WC.draw;kernel_rfl;kernel_rfl)|((first|apply ZF|apply WD.op);(focus (first|exact wN|(apply SYG.yes;(exact wY);((first|(apply SY.call (ZQy _ _) Tryz.call58;(exact aD))|(apply SY.call (ZTA _) Tryz.call57;(exact aD))|(apply ZEM elV (OpD.t rfl) (OpD.t rfl) (k-1);omega;omega)|exact ZDe|exact ZCB|exact ZHv|exact ZQq|exact ZOr|exact ZCu|exact ZRJ|exact ZEn|exact ZBw|exact ZS|exact ZEK|fail);all_goals infer_instance))));dsimp only [ZB,z0,z1])|((first|refine ZM rfl rfl rfl (fun h=>?_) (fun h=>?_)|refine ZL rfl rfl rfl (fun h=>?_) (fun h=>?_)|refine ZK rfl rfl rfl (fun h=>?_) (fun h=>?_)|refine Zp rfl rfl rfl (fun h=>?_) (fun h=>?_)|refine Zo rfl rfl rfl (fun h=>?_) (fun h=>?_)|refine Zl rfl rfl rfl (fun h=>?_) (fun h=>?_)) <;> (first|(exfalso;first|omega|contradiction)|(dsimp only [z0,z1])))|(apply Za;(exact oD);(with_reducible rfl))|(apply WC.condD;(exact oD);all_goals (intro h;try exact xD))|(apply WC.condNB;(exact oD);all_goals (intro h;try exact xD))|refine WC.skip ?_|refine WC.ret ?_|refine WC.exit ?_|refine WC.block ?_|refine ThenD.n ?_|refine ThenD.r ?_|refine InBlockD.r ?_));all_goals (first|((repeat clear hK);(repeat clear Kx))))
   all_goals try (rw [ZIX s k (by omega)] at h4)
   ·(refine ⟨trivial,_,rfl,?_⟩;refine FinD.i ?_)
    rw [h4,if_pos h]
   ·(refine ⟨trivial,_,rfl,?_⟩;refine FinD.i ?_)
    have h5:ZH0 s[k]=true:=by assumption
    rw [h4,if_neg (by simp [h5]),ZD7 _ _ (by omega) (by omega),if_pos (by simpa using h)]
   ·(refine ⟨k+1,?_,by first|omega|(simp only;omega),rfl,?_⟩;rotate_left;((try dsimp only [ZQ,z0,z1]);repeat (first|exact LeF.nil|refine ZD (k:=?_)));(try dsimp only))
    refine ⟨by omega,?_⟩
    have h5:ZH0 s[k]=true:=by assumption
    rw [h4,if_neg (by simp [h5]),ZD7 _ _ (by omega) (by omega),if_neg (by simpa using h)]
   ·(refine ⟨k+1,?_,by first|omega|(simp only;omega),rfl,?_⟩;rotate_left;((try dsimp only [ZQ,z0,z1]);repeat (first|exact LeF.nil|refine ZD (k:=?_)));(try dsimp only))
    refine ⟨by omega,?_⟩
    have h5:ZH0 s[k]=true:=by assumption
    have h0:(s.take k).getLast?=none:=by
     have:k=0:=by omega
     rw [this];rfl
    rw [h4,if_neg (by simp [h5]),h0]
    rfl
   ·(refine ⟨trivial,_,rfl,?_⟩;refine FinD.i ?_)
    rw [h4,List.drop_of_length_le (by omega)]
    rfl
end
end Go.Proofs.YtokmalofdapffaaGreat
