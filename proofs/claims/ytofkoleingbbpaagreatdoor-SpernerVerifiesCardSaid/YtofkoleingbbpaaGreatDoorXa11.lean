/- Part 11: walks by contracts, and plain laws. -/
import Derived.Test.YtofkoleingbbpaaGreatDoorXa10
set_option linter.unusedVariables false
set_option linter.unusedSimpArgs false
set_option linter.unusedSectionVars false
set_option maxRecDepth 100000
set_option maxHeartbeats 64000000
namespace Go.Proofs.YtofkoleingbbpaaGreatDoor
section
open Go.RowKit

theorem ZH8 (x:Vx):Fn Tryz.prog 78 [dS RV x] (dB (ZDL x)):=by
 (refine ZE Tryz.func78 rfl rfl ?_;simp only[Tryz.ntmps78,List.length_cons,List.length_nil,Nat.reduceAdd,Nat.reduceSub,List.replicate_succ,List.replicate_zero,List.cons_append,List.nil_append])
 ((repeat' (first|(apply WL.opN;exact yF;dsimp only[ZC,z0,z1])|refine WL.nil ?_|refine ZA fun Kx hK=>?_|(refine hK _ _ ?_;clear hK)|refine WC.region ?_|(apply ZF;(focus (first|exact wN|(apply SYG.yes;(exact wY);((first|exact ZBF|exact ZNv|exact ZNu|exact ZDf|exact Z3|exact ZCV|exact ZEN|fail);all_goals infer_instance))));dsimp only[ZC,z0,z1])|((first|refine ZK rfl rfl rfl (fun h=>?_) (fun h=>?_)|refine ZJ rfl rfl rfl (fun h=>?_) (fun h=>?_)|refine ZI rfl rfl rfl (fun h=>?_) (fun h=>?_)) <;> (first|(exfalso;first|omega|contradiction)|(dsimp only[z0,z1])))|refine WC.ret ?_));all_goals (first|((repeat clear hK);(repeat clear Kx))))
 all_goals ((refine⟨trivial,_,rfl,?_⟩;refine FinD.b ?_);unfold ZDL;simp[*])
theorem ZT4 (x:Int):Fn Tryz.prog 145 [dI x] (dB false):=by
 (refine ZE Tryz.func145 rfl rfl ?_;simp only[Tryz.ntmps145,List.length_cons,List.length_nil,Nat.reduceAdd,Nat.reduceSub,List.replicate_succ,List.replicate_zero,List.cons_append,List.nil_append])
 ((repeat' (first|(apply WL.opN;exact yF;dsimp only[ZC,z0,z1])|refine WL.nil ?_|refine ZA fun Kx hK=>?_|(refine hK _ _ ?_;clear hK)|refine WC.region ?_|(apply WL.opN;(focus ((first|exact ZEn|fail);all_goals infer_instance));dsimp only[ZC,z0,z1])|refine WC.ret ?_));all_goals (first|((repeat clear hK);(repeat clear Kx))))
 all_goals ((refine⟨trivial,_,rfl,?_⟩;refine FinD.b ?_);simp)
def ZTh (x y:Int):Int:=if x<y then -1 else if y<x then 1 else 0
theorem ZO6 (x y:Int):Fn Tryz.prog 121 [dI x,dI y] (dI (ZTh x y)):=by
 (refine ZE Tryz.func121 rfl rfl ?_;simp only[Tryz.ntmps121,List.length_cons,List.length_nil,Nat.reduceAdd,Nat.reduceSub,List.replicate_succ,List.replicate_zero,List.cons_append,List.nil_append])
 ((repeat' (first|(apply WL.opN;exact yF;dsimp only[ZC,z0,z1])|refine WL.nil ?_|refine ZA fun Kx hK=>?_|(refine hK _ _ ?_;clear hK)|refine WC.region ?_|(apply WL.opN;(focus ((first|(apply SY.call (ZT4 _) Tryz.call145;(exact aD))|exact ZBF|exact ZFN|fail);all_goals infer_instance));dsimp only[ZC,z0,z1])|(apply ZQ;(exact oD);(with_reducible rfl))|(apply ZB;(exact oD);all_goals (intro h;try exact xD))|refine WC.skip ?_|refine WC.ret ?_|refine ThenD.r ?_));all_goals (first|((repeat clear hK);(repeat clear Kx))))
 all_goals ((refine⟨trivial,_,rfl,?_⟩;refine FinD.i ?_);unfold ZTh;simp[*])
 all_goals omega
def orI:List Int->Int
 | []=>0
 | x::l=>if x=0 then orI l else x
theorem ZGR {l:List Int} {k:Nat} (h:k<l.length):orI (l.drop k)=if l[k]=0 then orI (l.drop (k+1)) else l[k]:=by
 rw[List.drop_eq_getElem_cons h];rfl
theorem ZT6 (l:List Int):Fn Tryz.prog 120 [dS ZAR l] (dI (orI l)):=by
 (refine ZE Tryz.func120 rfl rfl ?_;simp only[Tryz.ntmps120,List.length_cons,List.length_nil,Nat.reduceAdd,Nat.reduceSub,List.replicate_succ,List.replicate_zero,List.cons_append,List.nil_append])
 (repeat' (first|(apply WL.opN;exact yF;dsimp only[ZC,z0,z1])|refine WL.nil ?_|refine ZA fun Kx hK=>?_|(refine hK _ _ ?_;clear hK)|refine WC.region ?_|(apply WL.opN;(focus ((first|exact ZA3|fail);all_goals infer_instance));dsimp only[ZC,z0,z1])|refine WC.block ?_))
 (first|refine ZR (t:=0) rfl ZEH fun hl0=>?_|refine ZR (t:=0) rfl ZDu fun hl0=>?_);simp only[maxLen] at hl0
 (refine WC.loopU (X:=Nat) (fun k=>[(8,dI (k:Int)),(2,dA),(5,dA),(9,dA),(10,dA),(11,dA),(12,dA),(13,dA),(14,dA),(15,dA),(16,dA)]) (fun k=>[]) (fun k=>l.length-k) (fun k=>k≤l.length/\orI l=orI (l.drop k)) 0 ?start ?frame0 ?objs0 ?round)
 case start=>exact⟨Nat.zero_le _,rfl⟩
 case frame0=>exact zFr
 case objs0=>rfl
 case round =>
  rintro k ⟨h1,h2⟩;dsimp only[ZL,z0,z1];((repeat' (first|(apply WL.opN;exact yF;dsimp only[ZC,z0,z1])|refine WL.nil ?_|refine ZA fun Kx hK=>?_|(refine hK _ _ ?_;clear hK)|(refine Kont.skip ?_;clear hK)|refine WC.region ?_|(apply WL.opN;(focus ((first|exact ZBF|exact ZEn|exact ZBg|exact ZT|fail);all_goals infer_instance));dsimp only[ZC,z0,z1])|(apply ZB;(exact oD);all_goals (intro h;try exact xD))|(apply ZG;(exact oD);all_goals (intro h;try exact xD))|refine WC.skip ?_|refine WC.ret ?_|refine WC.exit ?_|refine WC.block ?_|refine ThenD.n ?_|refine ThenD.r ?_|refine InBlockD.r ?_));all_goals (first|((repeat clear hK);(repeat clear Kx))))
  ·(refine⟨trivial,_,rfl,?_⟩;refine FinD.i ?_)
   rw[h2,ZGR (by omega),if_neg h]
  ·(refine zNx (k+1) ?_;(try dsimp only))
   exact⟨by omega,by rw[h2,ZGR (by omega),if_pos h]⟩
  ·(refine⟨trivial,_,rfl,?_⟩;refine FinD.i ?_)
   rw[h2,List.drop_of_length_le (by omega)];rfl
theorem ZO8 (x y:Vx):orI [ZTh x.1 y.1,ZTh x.2 y.2]=ZAd x y:=by
 unfold ZAd ZTh orI orI orI
 repeat' split
 all_goals first|rfl|omega
theorem ZI0 (x y:Vx):Fn Tryz.prog 79 [dS RV x,dS RV y] (dI (ZAd x y)):=by
 (refine ZE Tryz.func79 rfl rfl ?_;simp only[Tryz.ntmps79,List.length_cons,List.length_nil,Nat.reduceAdd,Nat.reduceSub,List.replicate_succ,List.replicate_zero,List.cons_append,List.nil_append])
 ((repeat' (first|((first|apply WL.opN|apply WD.opN);exact yF;dsimp only[ZC,z0,z1])|refine WL.nil ?_|refine WD.nil ?_|refine ZA fun Kx hK=>?_|(refine hK _ _ ?_;clear hK)|refine WC.region ?_|(apply WC.draw;kernel_rfl;kernel_rfl)|((first|apply WL.opN|apply WD.opN);(focus ((first|(apply SY.call (ZO6 _ _) Tryz.call121;(exact aD))|(apply SY.call (ZT6 [_,_]) Tryz.call120;(exact aD))|exact Z3|exact ZBQ|exact ZEN|fail);all_goals infer_instance));dsimp only[ZC,z0,z1])|refine WC.ret ?_));all_goals (first|((repeat clear hK);(repeat clear Kx))))
 all_goals ((refine⟨trivial,_,rfl,?_⟩;refine FinD.i ?_);exact ZO8 _ _)
theorem ZND (s:List Vx):Fn Tryz.prog 39 [dS ZM s] (dI (ZAC s)):=by
 (refine ZE Tryz.func39 rfl rfl ?_;simp only[Tryz.ntmps39,List.length_cons,List.length_nil,Nat.reduceAdd,Nat.reduceSub,List.replicate_succ,List.replicate_zero,List.cons_append,List.nil_append])
 ((repeat' (first|((first|apply WL.opN|apply WD.opN);exact yF;dsimp only[ZC,z0,z1])|refine WL.nil ?_|refine ZA fun Kx hK=>?_|(refine hK _ _ ?_;clear hK)|refine WC.region ?_|((first|apply ZF|apply WD.op);(focus (first|exact wN|(apply SYG.yes;(exact wY);((first|exact ZFN|exact ZHe|exact ZA3|fail);all_goals infer_instance))));dsimp only[ZC,z0,z1])|(apply ZB;(exact oD);all_goals (intro h;try exact xD))|refine WC.skip ?_|refine WC.ret ?_|refine WC.block ?_|refine ThenD.r ?_|refine InBlockD.r ?_));all_goals (first|refine WC.id ?_|((repeat clear hK);(repeat clear Kx))))
 ·(refine⟨trivial,_,rfl,?_⟩;refine FinD.i ?_)
  unfold ZAC;rw[if_pos (by omega)]
 ·(refine⟨trivial,_,rfl,?_⟩;refine FinD.i ?_)
  unfold ZAC;rw[if_neg (by omega),if_pos (by omega)]
 ·rename_i h1 h2;have hs:ZAC s=ZMF none s:=by unfold ZAC;rw[if_neg (by omega),if_neg (by omega)]
  (refine WC.loopU (X:=Nat) (fun k=>[(15,dI (k:Int)),(2,dA),(3,dA),(4,dA),(16,dA),(17,dA),(18,dA),(19,dA),(20,dA),(21,dA),(22,dA),(23,dA),(24,dA),(25,dA),(26,dA),(27,dA),(28,dA),(29,dA),(30,dA),(31,dA),(32,dA),(33,dA),(34,dA),(35,dA)]) (fun k=>[]) (fun k=>s.length-k) (fun k=>k≤s.length/\ZAC s=ZMF (s.take k).getLast? (s.drop k)) 0 ?start ?frame0 ?objs0 ?round)
  case start=>exact⟨Nat.zero_le _,by rw[hs];rfl⟩
  case frame0=>exact zFr
  case objs0=>rfl
  case round =>
   rintro k ⟨h3,h4⟩;dsimp only[ZL,z0,z1];((repeat' (first|((first|apply WL.opN|apply WD.opN);exact yF;dsimp only[ZC,z0,z1])|refine WL.nil ?_|refine WD.nil ?_|refine ZA fun Kx hK=>?_|(refine hK _ _ ?_;clear hK)|(refine Kont.skip ?_;clear hK)|refine WC.region ?_|(apply WC.draw;kernel_rfl;kernel_rfl)|(apply WL.alloc;(exact tzV);(first|exact Zw rfl|exact ZAU);(intro _;dsimp only[ZC,z0,z1]))|(apply ZP;(exact tD);rfl;(exact oD);(exact hD);dsimp only[ZC,z0,z1])|((first|apply ZF|apply WD.op);(focus (first|exact wN|(apply SYG.yes;(exact wY);((first|(apply SY.call (ZI0 _ _) Tryz.call79;(exact aD))|(apply SY.call (ZH8 _) Tryz.call78;(exact aD))|(apply ZGd elV (OpD.t rfl) (OpD.t rfl) (k-1);omega;omega)|exact ZCX|exact ZBF|exact ZFN|exact ZNu|exact ZLC|exact ZBg|exact ZLw|exact ZDf|exact ZT|exact ZCV|fail);all_goals infer_instance))));dsimp only[ZC,z0,z1])|((first|refine ZK rfl rfl rfl (fun h=>?_) (fun h=>?_)|refine ZJ rfl rfl rfl (fun h=>?_) (fun h=>?_)|refine ZI rfl rfl rfl (fun h=>?_) (fun h=>?_)|refine ZW rfl rfl rfl (fun h=>?_) (fun h=>?_)|refine ZU rfl rfl rfl (fun h=>?_) (fun h=>?_)|refine ZS rfl rfl rfl (fun h=>?_) (fun h=>?_)) <;> (first|(exfalso;first|omega|contradiction)|(dsimp only[z0,z1])))|(apply ZQ;(exact oD);(with_reducible rfl))|(apply ZB;(exact oD);all_goals (intro h;try exact xD))|(apply ZO;(exact oD);all_goals (intro h;try exact xD))|refine WC.skip ?_|refine WC.ret ?_|refine WC.exit ?_|refine WC.block ?_|refine ThenD.n ?_|refine ThenD.r ?_|refine InBlockD.r ?_));all_goals (first|((repeat clear hK);(repeat clear Kx))))
   all_goals try (rw[ZGr s k (by omega)] at h4)
   ·(refine⟨trivial,_,rfl,?_⟩;refine FinD.i ?_)
    rw[h4,if_pos h]
   ·(refine⟨trivial,_,rfl,?_⟩;refine FinD.i ?_)
    have h5:ZDL s[k]=true:=by assumption
    rw[h4,if_neg (by simp[h5]),ZC9 _ _ (by omega) (by omega),if_pos (by simpa using h)]
   ·(refine zNx (k+1) ?_;(try dsimp only))
    refine⟨by omega,?_⟩;have h5:ZDL s[k]=true:=by assumption
    rw[h4,if_neg (by simp[h5]),ZC9 _ _ (by omega) (by omega),if_neg (by simpa using h)]
   ·(refine zNx (k+1) ?_;(try dsimp only))
    refine⟨by omega,?_⟩;have h5:ZDL s[k]=true:=by assumption
    have h0:(s.take k).getLast?=none:=by
     have:k=0:=by omega
     rw[this];rfl
    rw[h4,if_neg (by simp[h5]),h0];rfl
   ·(refine⟨trivial,_,rfl,?_⟩;refine FinD.i ?_)
    rw[h4,List.drop_of_length_le (by omega)];rfl
end
section
open Go.RowKit

abbrev ZU2 (p:Vx->Bool):Dat:=ZK7 Tryz.prog (fun v=>[dS RV v]) (fun v=>dB (p v))
def ZH2 {α:Type} (p:α->Bool):Nat->List α->Int
 | _,[]=>-1
 | k,x::l=>if p x=true then(k:Int) else ZH2 p (k+1) l
theorem ZC7 {α:Type} {p:α->Bool} {l:List α} {k:Nat} (h:k<l.length):ZH2 p k (l.drop k)=if p l[k]=true then(k:Int) else ZH2 p (k+1) (l.drop (k+1)):=by
 rw[List.drop_eq_getElem_cons h];rfl
theorem ZGN {α:Type} {p:α->Bool}:∀(l:List α) (k:Nat),decide (0≤ZH2 p k l)=l.any p
 | [],k=>by simp[ZH2]
 | x::l,k=>by
  unfold ZH2;rw[List.any_cons];split
  ·rename_i h;rw[h];simp
  ·rename_i h;rw[ZGN l];simp[h]
theorem ZVD (l:List (Vx)) (p:Vx->Bool):Fn Tryz.prog 125 [dS ZM l,ZU2 p] (dI (ZH2 p 0 l)):=by
 (refine ZE Tryz.func125 rfl rfl ?_;simp only[Tryz.ntmps125,List.length_cons,List.length_nil,Nat.reduceAdd,Nat.reduceSub,List.replicate_succ,List.replicate_zero,List.cons_append,List.nil_append])
 (repeat' (first|(apply WL.opN;exact yF;dsimp only[ZC,z0,z1])|refine WL.nil ?_|refine ZA fun Kx hK=>?_|(refine hK _ _ ?_;clear hK)|refine WC.region ?_|(apply WL.opN;(focus ((first|exact ZA3|fail);all_goals infer_instance));dsimp only[ZC,z0,z1])|refine WC.block ?_))
 (first|refine ZR (t:=0) rfl ZEH fun hl0=>?_|refine ZR (t:=0) rfl ZDu fun hl0=>?_);simp only[maxLen] at hl0
 (refine WC.loopU (X:=Nat) (fun k=>[(8,dI (k:Int)),(4,dA),(5,dA),(9,dA),(10,dA),(11,dA),(12,dA),(13,dA),(14,dA),(15,dA),(16,dA),(17,dA),(18,dA)]) (fun k=>[]) (fun k=>l.length-k) (fun k=>k≤l.length/\ZH2 p 0 l=ZH2 p k (l.drop k)) 0 ?start ?frame0 ?objs0 ?round)
 case start=>exact⟨Nat.zero_le _,rfl⟩
 case frame0=>exact zFr
 case objs0=>rfl
 case round =>
  rintro k ⟨h1,h2⟩;dsimp only[ZL,z0,z1];((repeat' (first|(apply WL.opN;exact yF;dsimp only[ZC,z0,z1])|refine WL.nil ?_|refine ZA fun Kx hK=>?_|(refine hK _ _ ?_;clear hK)|(refine Kont.skip ?_;clear hK)|refine WC.region ?_|(apply WL.opN;(focus ((first|exact ZBF|exact ZBg|exact ZT|exact yDyn|fail);all_goals infer_instance));dsimp only[ZC,z0,z1])|(apply ZB;(exact oD);all_goals (intro h;try exact xD))|(apply WC.cond;(exact oD);all_goals (intro h;try exact xD))|refine WC.skip ?_|refine WC.ret ?_|refine WC.exit ?_|refine WC.block ?_|refine ThenD.n ?_|refine ThenD.r ?_|refine InBlockD.r ?_));all_goals (first|((repeat clear hK);(repeat clear Kx))))
  ·(refine⟨trivial,_,rfl,?_⟩;refine FinD.i ?_)
   rw[h2,ZC7 (by omega),if_pos h]
  ·(refine zNx (k+1) ?_;(try dsimp only))
   exact⟨by omega,by rw[h2,ZC7 (by omega),if_neg (by simp[h])]⟩
  ·(refine⟨trivial,_,rfl,?_⟩;refine FinD.i ?_)
   rw[h2,List.drop_of_length_le (by omega)];rfl
theorem ZSq (l:List Vx) (p:Vx->Bool):Fn Tryz.prog 83 [dS ZM l,ZU2 p] (dB (l.any p)):=by
 (refine ZE Tryz.func83 rfl rfl ?_;simp only[Tryz.ntmps83,List.length_cons,List.length_nil,Nat.reduceAdd,Nat.reduceSub,List.replicate_succ,List.replicate_zero,List.cons_append,List.nil_append])
 ((repeat' (first|(apply WL.opN;exact yF;dsimp only[ZC,z0,z1])|refine WL.nil ?_|refine ZA fun Kx hK=>?_|(refine hK _ _ ?_;clear hK)|refine WC.region ?_|(apply WL.opN;(focus ((first|(apply SY.call (ZVD _ _) Tryz.call125;(exact aD))|exact ZNu|fail);all_goals infer_instance));dsimp only[ZC,z0,z1])|refine WC.ret ?_));all_goals (first|((repeat clear hK);(repeat clear Kx))))
 all_goals ((refine⟨trivial,_,rfl,?_⟩;refine FinD.b ?_);exact ZGN _ _)
theorem ZVF (l:List Vx) (v:Vx):Fn Tryz.prog 94 [dS ZM l,dS RV v] (dI (ZH2 (fun y=>decide (v=y)) 0 l)):=by
 (refine ZE Tryz.func94 rfl rfl ?_;simp only[Tryz.ntmps94,List.length_cons,List.length_nil,Nat.reduceAdd,Nat.reduceSub,List.replicate_succ,List.replicate_zero,List.cons_append,List.nil_append])
 (repeat' (first|((first|apply WL.opN|apply WD.opN);exact yF;dsimp only[ZC,z0,z1])|refine WL.nil ?_|refine ZA fun Kx hK=>?_|(refine hK _ _ ?_;clear hK)|refine WC.region ?_|((first|apply WL.opN|apply WD.opN);(focus ((first|exact ZA3|exact ZEN|fail);all_goals infer_instance));dsimp only[ZC,z0,z1])|refine WC.block ?_))
 (first|refine ZR (t:=0) rfl ZEH fun hl0=>?_|refine ZR (t:=0) rfl ZDu fun hl0=>?_);simp only[maxLen] at hl0
 (refine WC.loopU (X:=Nat) (fun k=>[(8,dI (k:Int)),(4,dA),(5,dA),(9,dA),(10,dA),(11,dA),(12,dA),(13,dA),(14,dA),(15,dA),(16,dA),(17,dA),(18,dA)]) (fun k=>[]) (fun k=>l.length-k) (fun k=>k≤l.length/\ZH2 (fun y=>decide (v=y)) 0 l=ZH2 (fun y=>decide (v=y)) k (l.drop k)) 0 ?start ?frame0 ?objs0 ?round)
 case start=>exact⟨Nat.zero_le _,rfl⟩
 case frame0=>exact zFr
 case objs0=>rfl
 case round =>
  rintro k ⟨h1,h2⟩;dsimp only[ZL,z0,z1];((repeat' (first|((first|apply WL.opN|apply WD.opN);exact yF;dsimp only[ZC,z0,z1])|refine WL.nil ?_|refine WD.nil ?_|refine ZA fun Kx hK=>?_|(refine hK _ _ ?_;clear hK)|(refine Kont.skip ?_;clear hK)|refine WC.region ?_|(apply WC.draw;kernel_rfl;kernel_rfl)|((first|apply WL.opN|apply WD.opN);(focus ((first|exact ZBF|exact ZHe|exact ZBg|exact ZT|fail);all_goals infer_instance));dsimp only[ZC,z0,z1])|(apply ZB;(exact oD);all_goals (intro h;try exact xD))|refine WC.skip ?_|refine WC.ret ?_|refine WC.exit ?_|refine WC.block ?_|refine ThenD.n ?_|refine ThenD.r ?_|refine InBlockD.r ?_));all_goals (first|((repeat clear hK);(repeat clear Kx))))
  ·(refine⟨trivial,_,rfl,?_⟩;refine FinD.i ?_)
   rw[h2,ZC7 (by omega),if_pos (by simpa using h)]
  ·(refine zNx (k+1) ?_;(try dsimp only))
   exact⟨by omega,by rw[h2,ZC7 (by omega),if_neg (by simpa using h)]⟩
  ·(refine⟨trivial,_,rfl,?_⟩;refine FinD.i ?_)
   rw[h2,List.drop_of_length_le (by omega)];rfl
theorem cnt_p (l:List Vx) (v:Vx):Fn Tryz.prog 52 [dS ZM l,dS RV v] (dB (decide (v∈l))):=by
 (refine ZE Tryz.func52 rfl rfl ?_;simp only[Tryz.ntmps52,List.length_cons,List.length_nil,Nat.reduceAdd,Nat.reduceSub,List.replicate_succ,List.replicate_zero,List.cons_append,List.nil_append])
 ((repeat' (first|(apply WL.opN;exact yF;dsimp only[ZC,z0,z1])|refine WL.nil ?_|refine ZA fun Kx hK=>?_|(refine hK _ _ ?_;clear hK)|refine WC.region ?_|(apply WL.opN;(focus ((first|(apply SY.call (ZVF _ _) Tryz.call94;(exact aD))|exact ZNu|exact ZEN|fail);all_goals infer_instance));dsimp only[ZC,z0,z1])|refine WC.ret ?_));all_goals (first|((repeat clear hK);(repeat clear Kx))))
 all_goals ((refine⟨trivial,_,rfl,?_⟩;refine FinD.b ?_);rw[ZGN])
 all_goals (rw[Bool.eq_iff_iff];simp)
end
section
open Go.RowKit

theorem ZGx (x y:Vx):Fn Tryz.prog 42 [dS RV x,dS RV y] (dI (ZAd x y)):=by
 (refine ZE Tryz.func42 rfl rfl ?_;simp only[Tryz.ntmps42,List.length_cons,List.length_nil,Nat.reduceAdd,Nat.reduceSub,List.replicate_succ,List.replicate_zero,List.cons_append,List.nil_append])
 ((repeat' (first|(apply WL.opN;exact yF;dsimp only[ZC,z0,z1])|refine WL.nil ?_|refine ZA fun Kx hK=>?_|(refine hK _ _ ?_;clear hK)|refine WC.region ?_|(apply WL.opN;(focus ((first|exact ZBF|exact ZFN|exact Z3|exact ZEN|fail);all_goals infer_instance));dsimp only[ZC,z0,z1])|(apply ZB;(exact oD);all_goals (intro h;try exact xD))|refine WC.skip ?_|refine WC.ret ?_|refine WC.block ?_|refine ThenD.r ?_|refine InBlockD.r ?_));all_goals (first|((repeat clear hK);(repeat clear Kx))))
 all_goals ((refine⟨trivial,_,rfl,?_⟩;refine FinD.i ?_);unfold ZAd;simp[*])
theorem few_c (s:List Vx):Fn Tryz.prog 19 [dS ZM s] (dB (decide ((s.length:Int)≤10))):=by
 (refine ZE Tryz.func19 rfl rfl ?_;simp only[Tryz.ntmps19,List.length_cons,List.length_nil,Nat.reduceAdd,Nat.reduceSub,List.replicate_succ,List.replicate_zero,List.cons_append,List.nil_append])
 ((repeat' (first|(apply WL.opN;exact yF;dsimp only[ZC,z0,z1])|refine WL.nil ?_|refine ZA fun Kx hK=>?_|(refine hK _ _ ?_;clear hK)|refine WC.region ?_|(apply WL.opN;(focus ((first|exact ZNv|exact ZA3|fail);all_goals infer_instance));dsimp only[ZC,z0,z1])|refine WC.ret ?_));all_goals (first|((repeat clear hK);(repeat clear Kx))))
 all_goals (refine⟨trivial,_,rfl,?_⟩;exact fD)
theorem ZHv (a b:List Vx):Fn Tryz.prog 77 [dS ZM a,dS ZM b] (dI (ZAb a b)):=by
 (refine ZE Tryz.func77 rfl rfl ?_;simp only[Tryz.ntmps77,List.length_cons,List.length_nil,Nat.reduceAdd,Nat.reduceSub,List.replicate_succ,List.replicate_zero,List.cons_append,List.nil_append])
 (repeat' (first|((first|apply WL.opN|apply WD.opN);exact yF;dsimp only[ZC,z0,z1])|refine WL.nil ?_|refine ZA fun Kx hK=>?_|(refine hK _ _ ?_;clear hK)|refine WC.region ?_|refine WC.block ?_))
 (first|refine ZR (t:=0) rfl ZEH fun hl0=>?_|refine ZR (t:=0) rfl ZDu fun hl0=>?_);simp only[maxLen] at hl0
 (first|refine ZR (t:=1) rfl ZEH fun hl1=>?_|refine ZR (t:=1) rfl ZDu fun hl1=>?_);simp only[maxLen] at hl1
 (refine WC.loopU (X:=Nat) (fun k=>[(5,dI (k:Int)),(4,dA),(6,dA),(7,dA),(8,dA),(9,dA),(10,dA),(11,dA),(12,dA),(13,dA),(14,dA),(15,dA),(16,dA),(17,dA),(18,dA),(19,dA),(20,dA),(21,dA),(22,dA),(23,dA),(24,dA),(25,dA),(26,dA),(27,dA),(28,dA),(29,dA),(30,dA)]) (fun k=>[]) (fun k=>a.length-k) (fun k=>k≤a.length/\k≤b.length/\ZAb a b=ZAb (a.drop k) (b.drop k)) 0 ?start ?frame0 ?objs0 ?round)
 case start=>exact⟨Nat.zero_le _,Nat.zero_le _,rfl⟩
 case frame0=>exact zFr
 case objs0=>rfl
 case round =>
  rintro k ⟨h1,h2,h3⟩;dsimp only[ZL,z0,z1];((repeat' (first|((first|apply WL.opN|apply WD.opN);exact yF;dsimp only[ZC,z0,z1])|refine WL.nil ?_|refine WD.nil ?_|refine ZA fun Kx hK=>?_|(refine hK _ _ ?_;clear hK)|(refine Kont.skip ?_;clear hK)|refine WC.region ?_|(apply WC.draw;kernel_rfl;kernel_rfl)|((first|apply ZF|apply WD.op);(focus (first|exact wN|(apply SYG.yes;(exact wY);((first|(apply SY.call (ZGx _ _) Tryz.call42;(exact aD))|exact ZCX|exact ZBF|exact ZFN|exact ZEn|exact ZBg|exact ZA3|exact ZT|exact ZCV|fail);all_goals infer_instance))));dsimp only[ZC,z0,z1])|((first|refine ZK rfl rfl rfl (fun h=>?_) (fun h=>?_)|refine ZJ rfl rfl rfl (fun h=>?_) (fun h=>?_)|refine ZI rfl rfl rfl (fun h=>?_) (fun h=>?_)|refine ZW rfl rfl rfl (fun h=>?_) (fun h=>?_)|refine ZU rfl rfl rfl (fun h=>?_) (fun h=>?_)|refine ZS rfl rfl rfl (fun h=>?_) (fun h=>?_)) <;> (first|(exfalso;first|omega|contradiction)|(dsimp only[z0,z1])))|(apply ZQ;(exact oD);(with_reducible rfl))|(apply ZB;(exact oD);all_goals (intro h;try exact xD))|(apply ZG;(exact oD);all_goals (intro h;try exact xD))|refine WC.skip ?_|refine WC.ret ?_|refine WC.exit ?_|refine WC.block ?_|refine ThenD.n ?_|refine ThenD.r ?_|refine InBlockD.r ?_));all_goals (first|((repeat clear hK);(repeat clear Kx))))
  all_goals first
   | ((refine zNx (k+1) ?_;(try dsimp only));exact⟨by omega,by omega,h3.trans (ZGw (by omega) (by omega) (by assumption))⟩)
   | ((refine⟨trivial,_,rfl,?_⟩;refine FinD.i ?_);rw[h3,ZEv];repeat' split) <;> first|rfl|contradiction|omega
theorem ZQK (a b:List Vx):Fn Tryz.prog 38 [dS ZM a,dS ZM b] (dB (decide (ZAb a b=0))):=by
 (refine ZE Tryz.func38 rfl rfl ?_;simp only[Tryz.ntmps38,List.length_cons,List.length_nil,Nat.reduceAdd,Nat.reduceSub,List.replicate_succ,List.replicate_zero,List.cons_append,List.nil_append])
 ((repeat' (first|(apply WL.opN;exact yF;dsimp only[ZC,z0,z1])|refine WL.nil ?_|refine ZA fun Kx hK=>?_|(refine hK _ _ ?_;clear hK)|refine WC.region ?_|(apply WL.opN;(focus ((first|(apply SY.call (ZHv _ _) Tryz.call77;(exact aD))|exact ZHe|fail);all_goals infer_instance));dsimp only[ZC,z0,z1])|refine WC.ret ?_));all_goals (first|((repeat clear hK);(repeat clear Kx))))
 all_goals (refine⟨trivial,_,rfl,?_⟩;exact fD)
end
section
open Go.RowKit

theorem ZQJ (l m:List (List Vx)):Fn Tryz.prog 17 [dS Zh l,dS Zh m] (dB (decide (l=m))):=by
 (refine ZE Tryz.func17 rfl rfl ?_;simp only[Tryz.ntmps17,List.length_cons,List.length_nil,Nat.reduceAdd,Nat.reduceSub,List.replicate_succ,List.replicate_zero,List.cons_append,List.nil_append])
 ((repeat' (first|((first|apply WL.opN|apply WD.opN);exact yF;dsimp only[ZC,z0,z1])|refine WL.nil ?_|refine ZA fun Kx hK=>?_|(refine hK _ _ ?_;clear hK)|refine WC.region ?_|((first|apply WL.opN|apply WD.opN);(focus ((first|exact ZEn|exact ZA3|fail);all_goals infer_instance));dsimp only[ZC,z0,z1])|(apply ZG;(exact oD);all_goals (intro h;try exact xD))|refine WC.skip ?_|refine WC.ret ?_|refine WC.block ?_|refine ThenD.r ?_));all_goals (first|refine WC.id ?_|((repeat clear hK);(repeat clear Kx))))
 ·(refine⟨trivial,_,rfl,?_⟩;refine FinD.b ?_)
  have:l≠m:=fun e=>h (by rw[e]);simp[this]
 ·have hl:l.length=m.length:=by omega
  (first|refine ZR (t:=0) rfl ZEH fun hl0=>?_|refine ZR (t:=0) rfl ZDu fun hl0=>?_);simp only[maxLen] at hl0
  (refine WC.loopU (X:=Nat) (fun k=>[(5,dI (k:Int)),(4,dA),(11,dA),(12,dA),(13,dA),(14,dA),(15,dA),(16,dA),(17,dA),(18,dA),(19,dA),(20,dA),(21,dA),(22,dA),(23,dA),(24,dA),(25,dA),(26,dA)]) (fun k=>[]) (fun k=>l.length-k) (fun k=>k≤l.length/\l.take k=m.take k) 0 ?start ?frame0 ?objs0 ?round)
  case start=>simp
  case frame0=>exact zFr
  case objs0=>rfl
  case round =>
   rintro k ⟨h1,h2⟩;dsimp only[ZL,z0,z1];((repeat' (first|((first|apply WL.opN|apply WD.opN);exact yF;dsimp only[ZC,z0,z1])|refine WL.nil ?_|refine WD.nil ?_|refine ZA fun Kx hK=>?_|(refine hK _ _ ?_;clear hK)|(refine Kont.skip ?_;clear hK)|refine WC.region ?_|(apply WC.draw;kernel_rfl;kernel_rfl)|((first|apply WL.opN|apply WD.opN);(focus ((first|(apply SY.call (ZQK _ _) Tryz.call38;(exact aD))|exact ZBF|exact ZLC|exact ZBg|exact ZA3|exact ZT|fail);all_goals infer_instance));dsimp only[ZC,z0,z1])|(apply ZB;(exact oD);all_goals (intro h;try exact xD))|(apply ZG;(exact oD);all_goals (intro h;try exact xD))|refine WC.skip ?_|refine WC.ret ?_|refine WC.exit ?_|refine WC.block ?_|refine ThenD.n ?_|refine ThenD.r ?_|refine InBlockD.r ?_));all_goals (first|((repeat clear hK);(repeat clear Kx))))
   ·(refine⟨trivial,_,rfl,?_⟩;refine FinD.b ?_)
    have:l≠m:=fun e=>h (ZBM.2 (by simp[e]));simp[this]
   ·(refine zNx (k+1) ?_;(try dsimp only))
    exact⟨by omega,by rw[Zf (by omega),Zf (by omega),h2,ZBM.1 h]⟩
   ·(refine⟨trivial,_,rfl,?_⟩;refine FinD.b ?_)
    rw[List.take_of_length_le (by omega),List.take_of_length_le (by omega)] at h2;simp[h2]
end
section
open Go.RowKit

theorem ZO5 (a b:List Vx):Fn Tryz.prog 122 [dS ZM a,dS ZM b,ZK7 Tryz.prog (fun x:Vx × Vx=>[dS RV x.1,dS RV x.2]) (fun x=>dI (ZAd x.1 x.2))] (dI (ZAb a b)):=by
 (refine ZE Tryz.func122 rfl rfl ?_;simp only[Tryz.ntmps122,List.length_cons,List.length_nil,Nat.reduceAdd,Nat.reduceSub,List.replicate_succ,List.replicate_zero,List.cons_append,List.nil_append])
 (repeat' (first|(apply WL.opN;exact yF;dsimp only[ZC,z0,z1])|refine WL.nil ?_|refine ZA fun Kx hK=>?_|(refine hK _ _ ?_;clear hK)|refine WC.region ?_|(apply WL.opN;(focus ((first|exact ZA3|fail);all_goals infer_instance));dsimp only[ZC,z0,z1])|refine WC.block ?_))
 (first|refine ZR (t:=0) rfl ZEH fun hl0=>?_|refine ZR (t:=0) rfl ZDu fun hl0=>?_);simp only[maxLen] at hl0
 (first|refine ZR (t:=1) rfl ZEH fun hl1=>?_|refine ZR (t:=1) rfl ZDu fun hl1=>?_);simp only[maxLen] at hl1
 (refine WC.loopU (X:=Nat) (fun k=>[(13,dI (k:Int)),(6,dA),(7,dA),(8,dA),(9,dA),(10,dA),(14,dA),(15,dA),(16,dA),(17,dA),(18,dA),(19,dA),(20,dA),(21,dA),(22,dA),(23,dA),(24,dA),(25,dA),(26,dA),(27,dA),(28,dA),(29,dA),(30,dA),(31,dA),(32,dA),(33,dA)]) (fun k=>[]) (fun k=>a.length-k) (fun k=>k≤a.length/\k≤b.length/\ZAb a b=ZAb (a.drop k) (b.drop k)) 0 ?start ?frame0 ?objs0 ?round)
 case start=>exact⟨Nat.zero_le _,Nat.zero_le _,rfl⟩
 case frame0=>exact zFr
 case objs0=>rfl
 case round =>
  rintro k ⟨h1,h2,h3⟩;dsimp only[ZL,z0,z1];((repeat' (first|(apply WL.opN;exact yF;dsimp only[ZC,z0,z1])|refine WL.nil ?_|refine ZA fun Kx hK=>?_|(refine hK _ _ ?_;clear hK)|(refine Kont.skip ?_;clear hK)|refine WC.region ?_|(apply WL.alloc;(exact tzV);(first|exact Zw rfl|exact ZAU);(intro _;dsimp only[ZC,z0,z1]))|(apply ZP;(exact tD);rfl;(exact oD);(exact hD);dsimp only[ZC,z0,z1])|(apply WL.opN;(focus ((first|(apply ZBJ (x:=((a[k],b[k]):Vx × Vx));(exact OpD.t rfl);(exact aD))|exact ZBF|exact ZNu|exact ZEn|exact ZBg|exact ZA3|exact ZT|fail);all_goals infer_instance));dsimp only[ZC,z0,z1])|(apply ZB;(exact oD);all_goals (intro h;try exact xD))|(apply ZG;(exact oD);all_goals (intro h;try exact xD))|refine WC.skip ?_|refine WC.ret ?_|refine WC.exit ?_|refine WC.block ?_|refine ThenD.n ?_|refine ThenD.r ?_|refine InBlockD.r ?_));all_goals (first|((repeat clear hK);(repeat clear Kx))))
  all_goals first
   | ((refine zNx (k+1) ?_;(try dsimp only));exact⟨by omega,by omega,h3.trans (ZGw (by omega) (by omega) (by assumption))⟩)
   | ((refine⟨trivial,_,rfl,?_⟩;refine FinD.i ?_);rw[h3,ZEv];repeat' split) <;> first|rfl|contradiction|omega
theorem ZHx (a b:List Vx):Fn Tryz.prog 80 [dS ZM a,dS ZM b] (dI (ZAb a b)):=by
 (refine ZE Tryz.func80 rfl rfl ?_;simp only[Tryz.ntmps80,List.length_cons,List.length_nil,Nat.reduceAdd,Nat.reduceSub,List.replicate_succ,List.replicate_zero,List.cons_append,List.nil_append])
 ((repeat' (first|(apply WL.opN;exact yF;dsimp only[ZC,z0,z1])|refine WL.nil ?_|refine ZA fun Kx hK=>?_|(refine hK _ _ ?_;clear hK)|refine WC.region ?_|(apply WL.opN;(focus ((first|(apply SY.call (ZO5 _ _) Tryz.call122;(exact aD))|fail);all_goals infer_instance));dsimp only[ZC,z0,z1])|refine WC.ret ?_));all_goals (first|((repeat clear hK);(repeat clear Kx))))
 all_goals (refine⟨trivial,_,rfl,?_⟩;exact fD)
theorem ZU5 (a b:List Vx):Fn Tryz.prog 36 [dS ZM a,dS ZM b] (dB (decide (a=b))):=by
 (refine ZE Tryz.func36 rfl rfl ?_;simp only[Tryz.ntmps36,List.length_cons,List.length_nil,Nat.reduceAdd,Nat.reduceSub,List.replicate_succ,List.replicate_zero,List.cons_append,List.nil_append])
 ((repeat' (first|((first|apply WL.opN|apply WD.opN);exact yF;dsimp only[ZC,z0,z1])|refine WL.nil ?_|refine ZA fun Kx hK=>?_|(refine hK _ _ ?_;clear hK)|refine WC.region ?_|((first|apply WL.opN|apply WD.opN);(focus ((first|exact ZEn|exact ZA3|fail);all_goals infer_instance));dsimp only[ZC,z0,z1])|(apply ZG;(exact oD);all_goals (intro h;try exact xD))|refine WC.skip ?_|refine WC.ret ?_|refine WC.block ?_|refine ThenD.r ?_));all_goals (first|refine WC.id ?_|((repeat clear hK);(repeat clear Kx))))
 ·(refine⟨trivial,_,rfl,?_⟩;refine FinD.b ?_)
  have:a≠b:=fun e=>h (by rw[e]);simp[this]
 ·have h0:=h;(first|refine ZR (t:=0) rfl ZEH fun hl0=>?_|refine ZR (t:=0) rfl ZDu fun hl0=>?_);simp only[maxLen] at hl0
  have h0':a.length=b.length:=by omega
  (refine WC.loopU (X:=Nat) (fun k=>[(13,dI (k:Int)),(4,dA),(5,dA),(14,dA),(15,dA),(16,dA),(17,dA),(18,dA),(19,dA),(20,dA),(21,dA),(22,dA),(23,dA),(24,dA),(25,dA)]) (fun k=>[]) (fun k=>a.length-k) (fun k=>k≤a.length/\a.take k=b.take k) 0 ?start ?frame0 ?objs0 ?round)
  case start=>simp
  case frame0=>exact zFr
  case objs0=>rfl
  case round =>
   rintro k ⟨h1,h2⟩;dsimp only[ZL,z0,z1];((repeat' (first|((first|apply WL.opN|apply WD.opN);exact yF;dsimp only[ZC,z0,z1])|refine WL.nil ?_|refine WD.nil ?_|refine ZA fun Kx hK=>?_|(refine hK _ _ ?_;clear hK)|(refine Kont.skip ?_;clear hK)|refine WC.region ?_|(apply WC.draw;kernel_rfl;kernel_rfl)|((first|apply WL.opN|apply WD.opN);(focus ((first|exact ZBF|exact ZEn|exact ZBg|exact ZT|fail);all_goals infer_instance));dsimp only[ZC,z0,z1])|(apply ZB;(exact oD);all_goals (intro h;try exact xD))|(apply ZG;(exact oD);all_goals (intro h;try exact xD))|refine WC.skip ?_|refine WC.ret ?_|refine WC.exit ?_|refine WC.block ?_|refine ThenD.n ?_|refine ThenD.r ?_|refine InBlockD.r ?_));all_goals (first|((repeat clear hK);(repeat clear Kx))))
   ·(refine⟨trivial,_,rfl,?_⟩;refine FinD.b ?_)
    have:a≠b:=fun e=>h (by subst e;rfl);simp[this]
   ·(refine zNx (k+1) ?_;(try dsimp only))
    exact⟨by omega,by rw[Zf (by omega),Zf (by omega),h2,h]⟩
   ·rw[List.take_of_length_le (by omega),List.take_of_length_le (by omega)] at h2;(refine⟨trivial,_,rfl,?_⟩;refine FinD.b ?_)
    simp[h2]
end
section
def ZUr (xs:List Vx):Prop:=xs.Pairwise fun a b=>¬ ZAd b a<0
def ZJX (xs:List Vx) (m:Nat) (zs:List Vx):Prop:=Asc zs/\(∀v,v∈zs↔v∈xs.take m)/\zs.getLast?=xs[m-1]?
theorem ZRX {zs:List Vx} {l:Vx} (h:Asc zs) (hl:zs.getLast?=some l):∀a∈zs,a=l\/ZAd a l<0:=by
 obtain⟨ys,rfl⟩:=List.getLast?_eq_some_iff.1 hl;intro a ha;rcases List.mem_append.1 ha with ha|ha
 ·exact .inr ((List.pairwise_append.1 h).2.2 a ha l (by simp))
 ·exact .inl (by simpa using ha)
theorem ZNS {xs:List Vx} (h:1≤xs.length):ZJX xs 1 (xs.take 1):=by
 match xs,h with
 | x::l,_=>exact⟨by simp[Asc],fun v=>Iff.rfl,by simp⟩
theorem ZKF {xs zs:List Vx} {m:Nat} (hs:ZUr xs) (h:ZJX xs m zs) (h1:1≤m) (h2:m<xs.length) (hne:xs[m]≠xs[m-1]'(by omega)):ZJX xs (m+1) (zs++[xs[m]]):=by
 obtain⟨ha,hm,hl⟩:=h;rw[List.getElem?_eq_getElem (by omega:m-1<xs.length)] at hl;have hlt:ZAd (xs[m-1]'(by omega)) xs[m]<0:=by
  have h3:=(List.pairwise_iff_getElem.1 hs) (m-1) m (by omega) h2 (by omega);rcases ZBl (xs[m-1]'(by omega)) xs[m] with k|k|k
  ·omega
  ·omega
  ·exact absurd k.2.2.symm hne
 refine⟨List.pairwise_append.2 ⟨ha,by simp,fun a haz b hb=>?_⟩,fun v=>?_,by simp[h2]⟩
 ·have hb':b=xs[m]:=by simpa using hb
  subst hb';rcases ZRX ha hl a haz with rfl|h4
  ·exact hlt
  ·exact ZBC h4 hlt
 ·rw[List.mem_append,hm,Zv h2];simp
theorem ZKG {xs zs:List Vx} {m:Nat} (h:ZJX xs m zs) (h1:1≤m) (h2:m<xs.length) (he:xs[m]=xs[m-1]'(by omega)):ZJX xs (m+1) zs:=by
 obtain⟨ha,hm,hl⟩:=h;refine⟨ha,fun v=>?_,?_⟩
 ·rw[hm,Zv h2];refine⟨.inl,fun h=>h.elim id fun h=>?_⟩;rw[h,he,List.mem_take_iff_getElem];exact⟨m-1,by omega,rfl⟩
 ·rw[hl,Nat.add_sub_cancel,List.getElem?_eq_getElem h2,List.getElem?_eq_getElem (by omega),he]
theorem ZMP {xs zs:List Vx} {m:Nat} (h:ZJX xs m zs) (h2:xs.length≤m):Asc zs/\∀v,v∈zs↔v∈xs:=⟨h.1,fun v=>by rw[h.2.1,List.take_of_length_le h2]⟩
end
end Go.Proofs.YtofkoleingbbpaaGreatDoor
