/- Part 7 of the proof. -/
import Derived.Test.YtofkoleingbbpaaGreatDoorZa6
set_option linter.all false
set_option maxRecDepth 100000
set_option maxHeartbeats 64000000
namespace Go.Proofs.YtofkoleingbbpaaGreatDoor
section
open Go.RowKit

theorem ZH8 (x:Vx):Fn Tryz.prog 78 [dS RV x] (dB (ZDL x)):=by
 refine zE Tryz.func78 21 ?_;((repeat' (first|refine zS ?_|refine ZA fun Kx hK=>?_|(refine hK _ _ ?_;clear hK)|(apply ZF;(focus (first|exact wN|(apply ZVt;exact wY;((first|exact ZBF|exact ZNx|exact ZNw|exact ZDf|exact Z2|exact ZCV|exact ZEL|fail);all_goals infer_instance))));dsimp only[ZC,z0,z1])|((first|refine ZM rfl rfl rfl (fun h=>?_) (fun h=>?_)|refine ZL rfl rfl rfl (fun h=>?_) (fun h=>?_)|refine ZK rfl rfl rfl (fun h=>?_) (fun h=>?_)) <;> (first|(exfalso;first|omega|contradiction)|(dsimp only[z0,z1])))|refine ZVs ?_));all_goals ((repeat clear hK);repeat clear Kx))
 all_goals ((refine⟨trivial,_,rfl,?_⟩;refine ZWL ?_);unfold ZDL;simp[*])
theorem ZT4 (x:Int):Fn Tryz.prog 145 [dI x] (dB false):=by
 refine zE Tryz.func145 6 ?_;((repeat' (first|refine zS ?_|refine ZA fun Kx hK=>?_|(refine hK _ _ ?_;clear hK)|(apply zV;(focus ((first|exact ZEm);all_goals infer_instance));exact zQ)|refine ZVs ?_));all_goals ((repeat clear hK);repeat clear Kx))
 all_goals ((refine⟨trivial,_,rfl,?_⟩;refine ZWL ?_);simp)
def ZTh (x y:Int):Int:=if x<y then -1 else if y<x then 1 else 0
theorem ZO8 (x y:Int):Fn Tryz.prog 121 [dI x,dI y] (dI (ZTh x y)):=by
 refine zE Tryz.func121 20 ?_;((repeat' (first|refine zS ?_|refine ZA fun Kx hK=>?_|(refine hK _ _ ?_;clear hK)|(apply zV;(focus ((first|(apply ZVm (ZT4 _) Tryz.call145;exact aD)|exact ZBF|exact ZFM);all_goals infer_instance));exact zQ)|(apply ZQ;exact oD;(with_reducible rfl))|(apply ZB;exact oD;all_goals (intro h;try exact xD))|refine ZVr ?_|refine ZVs ?_|refine ZVz ?_));all_goals ((repeat clear hK);repeat clear Kx))
 all_goals ((refine⟨trivial,_,rfl,?_⟩;refine ZWH ?_);unfold ZTh;simp[*])
 all_goals omega
def orI:List Int->Int
 | []=>0
 | x::l=>if x=0 then orI l else x
theorem ZGR {l:List Int} {k:Nat} (h:k<l.length):orI (l.drop k)=if l[k]=0 then orI (l.drop (k+1)) else l[k]:=by
 rw[List.drop_eq_getElem_cons h];rfl
theorem ZT6 (l:List Int):Fn Tryz.prog 120 [dS ZAQ l] (dI (orI l)):=by
 refine zE Tryz.func120 18 ?_;(repeat' (first|refine zS ?_|refine ZA fun Kx hK=>?_|(refine hK _ _ ?_;clear hK)|(apply zV;(focus ((first|exact ZA3);all_goals infer_instance));exact zQ)|refine ZVp ?_))
 (first|refine ZP (t:=0) rfl ZEG fun hl0=>?_|refine ZP (t:=0) rfl ZDu fun hl0=>?_);simp only[maxLen] at hl0
 (refine ZV4 (X:=Nat) (fun k=>[(8,dI (k:Int)),(2,dA),(5,dA),(9,dA),(10,dA),(11,dA),(12,dA),(13,dA),(14,dA),(15,dA),(16,dA)]) (fun k=>[]) (fun k=>l.length-k) (fun k=>k≤l.length/\orI l=orI (l.drop k)) 0 ?start ?frame0 ?objs0 ?round)
 case start=>exact⟨Nat.zero_le _,rfl⟩
 case frame0=>exact zFr
 case objs0=>rfl
 case round =>
  rintro k ⟨h1,h2⟩;dsimp only[ZH,z0,z1];((repeat' (first|refine zS ?_|refine ZA fun Kx hK=>?_|(refine hK _ _ ?_;clear hK)|(refine ZV0 ?_;clear hK)|(apply zV;(focus ((first|exact ZBF|exact ZEm|exact ZBg|exact ZS);all_goals infer_instance));exact zQ)|(apply ZB;exact oD;all_goals (intro h;try exact xD))|(apply ZG;exact oD;all_goals (intro h;try exact xD))|refine ZVr ?_|refine ZVs ?_|refine ZV1 ?_|refine ZVp ?_|refine ZVx ?_|refine ZVz ?_|refine ZWC ?_));all_goals ((repeat clear hK);repeat clear Kx))
  ·(refine⟨trivial,_,rfl,?_⟩;refine ZWH ?_)
   rw[h2,ZGR (by omega),if_neg h]
  ·(refine zNx (k+1) ?_;(try dsimp only))
   exact⟨by omega,by rw[h2,ZGR (by omega),if_pos h]⟩
  ·(refine⟨trivial,_,rfl,?_⟩;refine ZWH ?_)
   rw[h2,List.drop_of_length_le (by omega)];rfl
theorem ZPA (x y:Vx):orI [ZTh x.1 y.1,ZTh x.2 y.2]=ZAW x y:=by
 unfold ZAW ZTh orI orI orI
 repeat' split
 all_goals first|rfl|omega
theorem ZI0 (x y:Vx):Fn Tryz.prog 79 [dS RV x,dS RV y] (dI (ZAW x y)):=by
 refine zE Tryz.func79 17 ?_;((repeat' (first|refine zS ?_|refine WD.nil ?_|refine ZA fun Kx hK=>?_|(refine hK _ _ ?_;clear hK)|(apply ZWB;kernel_rfl;kernel_rfl)|((first|apply ZVi|apply ZVl);(focus ((first|(apply ZVm (ZO8 _ _) Tryz.call121;exact aD)|(apply ZVm (ZT6 [_,_]) Tryz.call120;exact aD)|exact Z2|exact ZBQ|exact ZEL|fail);all_goals infer_instance));dsimp only[ZC,z0,z1])|refine ZVs ?_));all_goals ((repeat clear hK);repeat clear Kx))
 all_goals ((refine⟨trivial,_,rfl,?_⟩;refine ZWH ?_);exact ZPA _ _)
theorem ZNF (s:List Vx):Fn Tryz.prog 39 [dS ZI s] (dI (ZAC s)):=by
 refine zE Tryz.func39 36 ?_;((repeat' (first|refine zS ?_|refine ZA fun Kx hK=>?_|(refine hK _ _ ?_;clear hK)|((first|apply ZF|apply WD.op);(focus (first|exact wN|(apply ZVt;exact wY;((first|exact ZFM|exact ZHe|exact ZA3|fail);all_goals infer_instance))));dsimp only[ZC,z0,z1])|(apply ZB;exact oD;all_goals (intro h;try exact xD))|refine ZVr ?_|refine ZVs ?_|refine ZVp ?_|refine ZVz ?_|refine ZWC ?_));all_goals (first|refine WC.id ?_|((repeat clear hK);(repeat clear Kx))))
 ·(refine⟨trivial,_,rfl,?_⟩;refine ZWH ?_)
  unfold ZAC;rw[if_pos (by omega)]
 ·(refine⟨trivial,_,rfl,?_⟩;refine ZWH ?_)
  unfold ZAC;rw[if_neg (by omega),if_pos (by omega)]
 ·rename_i h1 h2;have hs:ZAC s=ZMH none s:=by unfold ZAC;rw[if_neg (by omega),if_neg (by omega)]
  (refine ZV4 (X:=Nat) (fun k=>[(15,dI (k:Int)),(2,dA),(3,dA),(4,dA),(16,dA),(17,dA),(18,dA),(19,dA),(20,dA),(21,dA),(22,dA),(23,dA),(24,dA),(25,dA),(26,dA),(27,dA),(28,dA),(29,dA),(30,dA),(31,dA),(32,dA),(33,dA),(34,dA),(35,dA)]) (fun k=>[]) (fun k=>s.length-k) (fun k=>k≤s.length/\ZAC s=ZMH (s.take k).getLast? (s.drop k)) 0 ?start ?frame0 ?objs0 ?round)
  case start=>exact⟨Nat.zero_le _,by rw[hs];rfl⟩
  case frame0=>exact zFr
  case objs0=>rfl
  case round =>
   rintro k ⟨h3,h4⟩;dsimp only[ZH,z0,z1];((repeat' (first|refine zS ?_|refine WD.nil ?_|refine ZA fun Kx hK=>?_|(refine hK _ _ ?_;clear hK)|(refine ZV0 ?_;clear hK)|(apply ZWB;kernel_rfl;kernel_rfl)|(apply ZWF;exact tzV;(first|exact Z0 rfl|exact ZAw);(intro _;dsimp only[ZC,z0,z1]))|(apply ZR;exact tD;rfl;exact oD;exact hD;dsimp only[ZC,z0,z1])|((first|apply ZF|apply WD.op);(focus (first|exact wN|(apply ZVt;exact wY;((first|(apply ZVm (ZI0 _ _) Tryz.call79;exact aD)|(apply ZVm (ZH8 _) Tryz.call78;exact aD)|(apply ZGd elV (ZVh rfl) (ZVh rfl) (k-1);omega;omega)|exact ZCX|exact ZBF|exact ZFM|exact ZNw|exact ZLC|exact ZBg|exact ZLx|exact ZDf|exact ZS|exact ZCV|fail);all_goals infer_instance))));dsimp only[ZC,z0,z1])|((first|refine ZM rfl rfl rfl (fun h=>?_) (fun h=>?_)|refine ZL rfl rfl rfl (fun h=>?_) (fun h=>?_)|refine ZK rfl rfl rfl (fun h=>?_) (fun h=>?_)|refine Za rfl rfl rfl (fun h=>?_) (fun h=>?_)|refine ZX rfl rfl rfl (fun h=>?_) (fun h=>?_)|refine ZV rfl rfl rfl (fun h=>?_) (fun h=>?_)) <;> (first|(exfalso;first|omega|contradiction)|(dsimp only[z0,z1])))|(apply ZQ;exact oD;(with_reducible rfl))|(apply ZB;exact oD;all_goals (intro h;try exact xD))|(apply ZO;exact oD;all_goals (intro h;try exact xD))|refine ZVr ?_|refine ZVs ?_|refine ZV1 ?_|refine ZVp ?_|refine ZVx ?_|refine ZVz ?_|refine ZWC ?_));all_goals ((repeat clear hK);repeat clear Kx))
   all_goals try (rw[ZGq s k (by omega)] at h4)
   ·(refine⟨trivial,_,rfl,?_⟩;refine ZWH ?_)
    rw[h4,if_pos h]
   ·(refine⟨trivial,_,rfl,?_⟩;refine ZWH ?_)
    have h5:ZDL s[k]=true:=by assumption
    rw[h4,if_neg (by simp[h5]),ZDA _ _ (by omega) (by omega),if_pos (by simpa using h)]
   ·(refine zNx (k+1) ?_;(try dsimp only))
    refine⟨by omega,?_⟩;have h5:ZDL s[k]=true:=by assumption
    rw[h4,if_neg (by simp[h5]),ZDA _ _ (by omega) (by omega),if_neg (by simpa using h)]
   ·(refine zNx (k+1) ?_;(try dsimp only))
    refine⟨by omega,?_⟩;have h5:ZDL s[k]=true:=by assumption
    have h0:(s.take k).getLast?=none:=by
     have:k=0:=by omega
     rw[this];rfl
    rw[h4,if_neg (by simp[h5]),h0];rfl
   ·(refine⟨trivial,_,rfl,?_⟩;refine ZWH ?_)
    rw[h4,List.drop_of_length_le (by omega)];rfl
end
section
open Go.RowKit

abbrev ZU3 (p:Vx->Bool):Dat:=ZK7 Tryz.prog (fun v=>[dS RV v]) (fun v=>dB (p v))
def ZH2 {α:Type} (p:α->Bool):Nat->List α->Int
 | _,[]=>-1
 | k,x::l=>if p x=true then(k:Int) else ZH2 p (k+1) l
theorem ZC8 {α:Type} {p:α->Bool} {l:List α} {k:Nat} (h:k<l.length):ZH2 p k (l.drop k)=if p l[k]=true then(k:Int) else ZH2 p (k+1) (l.drop (k+1)):=by
 rw[List.drop_eq_getElem_cons h];rfl
theorem ZGN {α:Type} {p:α->Bool}:∀(l:List α) (k:Nat),decide (0≤ZH2 p k l)=l.any p
 | [],k=>by simp[ZH2]
 | x::l,k=>by
  unfold ZH2;rw[List.any_cons];split
  ·rename_i h;rw[h];simp
  ·rename_i h;rw[ZGN l];simp[h]
theorem ZVE (l:List (Vx)) (p:Vx->Bool):Fn Tryz.prog 125 [dS ZI l,ZU3 p] (dI (ZH2 p 0 l)):=by
 refine zE Tryz.func125 19 ?_;(repeat' (first|refine zS ?_|refine ZA fun Kx hK=>?_|(refine hK _ _ ?_;clear hK)|(apply zV;(focus ((first|exact ZA3);all_goals infer_instance));exact zQ)|refine ZVp ?_))
 (first|refine ZP (t:=0) rfl ZEG fun hl0=>?_|refine ZP (t:=0) rfl ZDu fun hl0=>?_);simp only[maxLen] at hl0
 (refine ZV4 (X:=Nat) (fun k=>[(8,dI (k:Int)),(4,dA),(5,dA),(9,dA),(10,dA),(11,dA),(12,dA),(13,dA),(14,dA),(15,dA),(16,dA),(17,dA),(18,dA)]) (fun k=>[]) (fun k=>l.length-k) (fun k=>k≤l.length/\ZH2 p 0 l=ZH2 p k (l.drop k)) 0 ?start ?frame0 ?objs0 ?round)
 case start=>exact⟨Nat.zero_le _,rfl⟩
 case frame0=>exact zFr
 case objs0=>rfl
 case round =>
  rintro k ⟨h1,h2⟩;dsimp only[ZH,z0,z1];((repeat' (first|refine zS ?_|refine ZA fun Kx hK=>?_|(refine hK _ _ ?_;clear hK)|(refine ZV0 ?_;clear hK)|(apply zV;(focus ((first|exact ZBF|exact ZBg|exact ZS|exact yDyn);all_goals infer_instance));exact zQ)|(apply ZB;exact oD;all_goals (intro h;try exact xD))|(apply ZWY;exact oD;all_goals (intro h;try exact xD))|refine ZVr ?_|refine ZVs ?_|refine ZV1 ?_|refine ZVp ?_|refine ZVx ?_|refine ZVz ?_|refine ZWC ?_));all_goals ((repeat clear hK);repeat clear Kx))
  ·(refine⟨trivial,_,rfl,?_⟩;refine ZWH ?_)
   rw[h2,ZC8 (by omega),if_pos h]
  ·(refine zNx (k+1) ?_;(try dsimp only))
   exact⟨by omega,by rw[h2,ZC8 (by omega),if_neg (by simp[h])]⟩
  ·(refine⟨trivial,_,rfl,?_⟩;refine ZWH ?_)
   rw[h2,List.drop_of_length_le (by omega)];rfl
theorem ZSq (l:List Vx) (p:Vx->Bool):Fn Tryz.prog 83 [dS ZI l,ZU3 p] (dB (l.any p)):=by
 refine zE Tryz.func83 9 ?_;((repeat' (first|refine zS ?_|refine ZA fun Kx hK=>?_|(refine hK _ _ ?_;clear hK)|(apply zV;(focus ((first|(apply ZVm (ZVE _ _) Tryz.call125;exact aD)|exact ZNw);all_goals infer_instance));exact zQ)|refine ZVs ?_));all_goals ((repeat clear hK);repeat clear Kx))
 all_goals ((refine⟨trivial,_,rfl,?_⟩;refine ZWL ?_);exact ZGN _ _)
theorem ZVG (l:List Vx) (v:Vx):Fn Tryz.prog 94 [dS ZI l,dS RV v] (dI (ZH2 (fun y=>decide (v=y)) 0 l)):=by
 refine zE Tryz.func94 19 ?_;(repeat' (first|refine zS ?_|refine ZA fun Kx hK=>?_|(refine hK _ _ ?_;clear hK)|(apply zV;(focus ((first|exact ZA3|exact ZEL);all_goals infer_instance));exact zQ)|refine ZVp ?_))
 (first|refine ZP (t:=0) rfl ZEG fun hl0=>?_|refine ZP (t:=0) rfl ZDu fun hl0=>?_);simp only[maxLen] at hl0
 (refine ZV4 (X:=Nat) (fun k=>[(8,dI (k:Int)),(4,dA),(5,dA),(9,dA),(10,dA),(11,dA),(12,dA),(13,dA),(14,dA),(15,dA),(16,dA),(17,dA),(18,dA)]) (fun k=>[]) (fun k=>l.length-k) (fun k=>k≤l.length/\ZH2 (fun y=>decide (v=y)) 0 l=ZH2 (fun y=>decide (v=y)) k (l.drop k)) 0 ?start ?frame0 ?objs0 ?round)
 case start=>exact⟨Nat.zero_le _,rfl⟩
 case frame0=>exact zFr
 case objs0=>rfl
 case round =>
  rintro k ⟨h1,h2⟩;dsimp only[ZH,z0,z1];((repeat' (first|refine zS ?_|refine WD.nil ?_|refine ZA fun Kx hK=>?_|(refine hK _ _ ?_;clear hK)|(refine ZV0 ?_;clear hK)|(apply ZWB;kernel_rfl;kernel_rfl)|((first|apply ZVi|apply ZVl);(focus ((first|exact ZBF|exact ZHe|exact ZBg|exact ZS|fail);all_goals infer_instance));dsimp only[ZC,z0,z1])|(apply ZB;exact oD;all_goals (intro h;try exact xD))|refine ZVr ?_|refine ZVs ?_|refine ZV1 ?_|refine ZVp ?_|refine ZVx ?_|refine ZVz ?_|refine ZWC ?_));all_goals ((repeat clear hK);repeat clear Kx))
  ·(refine⟨trivial,_,rfl,?_⟩;refine ZWH ?_)
   rw[h2,ZC8 (by omega),if_pos (by simpa using h)]
  ·(refine zNx (k+1) ?_;(try dsimp only))
   exact⟨by omega,by rw[h2,ZC8 (by omega),if_neg (by simpa using h)]⟩
  ·(refine⟨trivial,_,rfl,?_⟩;refine ZWH ?_)
   rw[h2,List.drop_of_length_le (by omega)];rfl
theorem cnt_p (l:List Vx) (v:Vx):Fn Tryz.prog 52 [dS ZI l,dS RV v] (dB (decide (v∈l))):=by
 refine zE Tryz.func52 9 ?_;((repeat' (first|refine zS ?_|refine ZA fun Kx hK=>?_|(refine hK _ _ ?_;clear hK)|(apply zV;(focus ((first|(apply ZVm (ZVG _ _) Tryz.call94;exact aD)|exact ZNw|exact ZEL);all_goals infer_instance));exact zQ)|refine ZVs ?_));all_goals ((repeat clear hK);repeat clear Kx))
 all_goals ((refine⟨trivial,_,rfl,?_⟩;refine ZWL ?_);rw[ZGN])
 all_goals (rw[Bool.eq_iff_iff];simp)
end
section
open Go.RowKit

theorem ZGw (x y:Vx):Fn Tryz.prog 42 [dS RV x,dS RV y] (dI (ZAW x y)):=by
 refine zE Tryz.func42 29 ?_;((repeat' (first|refine zS ?_|refine ZA fun Kx hK=>?_|(refine hK _ _ ?_;clear hK)|(apply zV;(focus ((first|exact ZBF|exact ZFM|exact Z2|exact ZEL);all_goals infer_instance));exact zQ)|(apply ZB;exact oD;all_goals (intro h;try exact xD))|refine ZVr ?_|refine ZVs ?_|refine ZVp ?_|refine ZVz ?_|refine ZWC ?_));all_goals ((repeat clear hK);repeat clear Kx))
 all_goals ((refine⟨trivial,_,rfl,?_⟩;refine ZWH ?_);unfold ZAW;simp[*])
theorem few_c (s:List Vx):Fn Tryz.prog 19 [dS ZI s] (dB (decide ((s.length:Int)≤10))):=by
 refine zE Tryz.func19 6 ?_;((repeat' (first|refine zS ?_|refine ZA fun Kx hK=>?_|(refine hK _ _ ?_;clear hK)|(apply zV;(focus ((first|exact ZNx|exact ZA3);all_goals infer_instance));exact zQ)|refine ZVs ?_));all_goals ((repeat clear hK);repeat clear Kx))
 all_goals (refine⟨trivial,_,rfl,?_⟩;exact fD)
theorem ZHv (a b:List Vx):Fn Tryz.prog 77 [dS ZI a,dS ZI b] (dI (ZAa a b)):=by
 refine zE Tryz.func77 43 ?_;(repeat' (first|refine zS ?_|refine ZA fun Kx hK=>?_|(refine hK _ _ ?_;clear hK)|refine ZVp ?_))
 (first|refine ZP (t:=0) rfl ZEG fun hl0=>?_|refine ZP (t:=0) rfl ZDu fun hl0=>?_);simp only[maxLen] at hl0
 (first|refine ZP (t:=1) rfl ZEG fun hl1=>?_|refine ZP (t:=1) rfl ZDu fun hl1=>?_);simp only[maxLen] at hl1
 (refine ZV4 (X:=Nat) (fun k=>[(5,dI (k:Int)),(4,dA),(6,dA),(7,dA),(8,dA),(9,dA),(10,dA),(11,dA),(12,dA),(13,dA),(14,dA),(15,dA),(16,dA),(17,dA),(18,dA),(19,dA),(20,dA),(21,dA),(22,dA),(23,dA),(24,dA),(25,dA),(26,dA),(27,dA),(28,dA),(29,dA),(30,dA)]) (fun k=>[]) (fun k=>a.length-k) (fun k=>k≤a.length/\k≤b.length/\ZAa a b=ZAa (a.drop k) (b.drop k)) 0 ?start ?frame0 ?objs0 ?round)
 case start=>exact⟨Nat.zero_le _,Nat.zero_le _,rfl⟩
 case frame0=>exact zFr
 case objs0=>rfl
 case round =>
  rintro k ⟨h1,h2,h3⟩;dsimp only[ZH,z0,z1];((repeat' (first|refine zS ?_|refine WD.nil ?_|refine ZA fun Kx hK=>?_|(refine hK _ _ ?_;clear hK)|(refine ZV0 ?_;clear hK)|(apply ZWB;kernel_rfl;kernel_rfl)|((first|apply ZF|apply WD.op);(focus (first|exact wN|(apply ZVt;exact wY;((first|(apply ZVm (ZGw _ _) Tryz.call42;exact aD)|exact ZCX|exact ZBF|exact ZFM|exact ZEm|exact ZBg|exact ZA3|exact ZS|exact ZCV|fail);all_goals infer_instance))));dsimp only[ZC,z0,z1])|((first|refine ZM rfl rfl rfl (fun h=>?_) (fun h=>?_)|refine ZL rfl rfl rfl (fun h=>?_) (fun h=>?_)|refine ZK rfl rfl rfl (fun h=>?_) (fun h=>?_)|refine Za rfl rfl rfl (fun h=>?_) (fun h=>?_)|refine ZX rfl rfl rfl (fun h=>?_) (fun h=>?_)|refine ZV rfl rfl rfl (fun h=>?_) (fun h=>?_)) <;> (first|(exfalso;first|omega|contradiction)|(dsimp only[z0,z1])))|(apply ZQ;exact oD;(with_reducible rfl))|(apply ZB;exact oD;all_goals (intro h;try exact xD))|(apply ZG;exact oD;all_goals (intro h;try exact xD))|refine ZVr ?_|refine ZVs ?_|refine ZV1 ?_|refine ZVp ?_|refine ZVx ?_|refine ZVz ?_|refine ZWC ?_));all_goals ((repeat clear hK);repeat clear Kx))
  all_goals first
   | ((refine zNx (k+1) ?_;(try dsimp only));exact⟨by omega,by omega,h3.trans (ZGv (by omega) (by omega) (by assumption))⟩)
   | ((refine⟨trivial,_,rfl,?_⟩;refine ZWH ?_);rw[h3,ZEu];repeat' split) <;> first|rfl|contradiction|omega
theorem ZQM (a b:List Vx):Fn Tryz.prog 38 [dS ZI a,dS ZI b] (dB (decide (ZAa a b=0))):=by
 refine zE Tryz.func38 9 ?_;((repeat' (first|refine zS ?_|refine ZA fun Kx hK=>?_|(refine hK _ _ ?_;clear hK)|(apply zV;(focus ((first|(apply ZVm (ZHv _ _) Tryz.call77;exact aD)|exact ZHe);all_goals infer_instance));exact zQ)|refine ZVs ?_));all_goals ((repeat clear hK);repeat clear Kx))
 all_goals (refine⟨trivial,_,rfl,?_⟩;exact fD)
end
section
open Go.RowKit

theorem ZQL (l m:List (List Vx)):Fn Tryz.prog 17 [dS Zh l,dS Zh m] (dB (decide (l=m))):=by
 refine zE Tryz.func17 27 ?_;((repeat' (first|refine zS ?_|refine ZA fun Kx hK=>?_|(refine hK _ _ ?_;clear hK)|(apply zV;(focus ((first|exact ZEm|exact ZA3);all_goals infer_instance));exact zQ)|(apply ZG;exact oD;all_goals (intro h;try exact xD))|refine ZVr ?_|refine ZVs ?_|refine ZVp ?_|refine ZVz ?_));all_goals (first|refine WC.id ?_|((repeat clear hK);(repeat clear Kx))))
 ·(refine⟨trivial,_,rfl,?_⟩;refine ZWL ?_)
  have:l≠m:=fun e=>h (by rw[e]);simp[this]
 ·have hl:l.length=m.length:=by omega
  (first|refine ZP (t:=0) rfl ZEG fun hl0=>?_|refine ZP (t:=0) rfl ZDu fun hl0=>?_);simp only[maxLen] at hl0
  (refine ZV4 (X:=Nat) (fun k=>[(5,dI (k:Int)),(4,dA),(11,dA),(12,dA),(13,dA),(14,dA),(15,dA),(16,dA),(17,dA),(18,dA),(19,dA),(20,dA),(21,dA),(22,dA),(23,dA),(24,dA),(25,dA),(26,dA)]) (fun k=>[]) (fun k=>l.length-k) (fun k=>k≤l.length/\l.take k=m.take k) 0 ?start ?frame0 ?objs0 ?round)
  case start=>simp
  case frame0=>exact zFr
  case objs0=>rfl
  case round =>
   rintro k ⟨h1,h2⟩;dsimp only[ZH,z0,z1];((repeat' (first|refine zS ?_|refine WD.nil ?_|refine ZA fun Kx hK=>?_|(refine hK _ _ ?_;clear hK)|(refine ZV0 ?_;clear hK)|(apply ZWB;kernel_rfl;kernel_rfl)|((first|apply ZVi|apply ZVl);(focus ((first|(apply ZVm (ZQM _ _) Tryz.call38;exact aD)|exact ZBF|exact ZLC|exact ZBg|exact ZA3|exact ZS|fail);all_goals infer_instance));dsimp only[ZC,z0,z1])|(apply ZB;exact oD;all_goals (intro h;try exact xD))|(apply ZG;exact oD;all_goals (intro h;try exact xD))|refine ZVr ?_|refine ZVs ?_|refine ZV1 ?_|refine ZVp ?_|refine ZVx ?_|refine ZVz ?_|refine ZWC ?_));all_goals ((repeat clear hK);repeat clear Kx))
   ·(refine⟨trivial,_,rfl,?_⟩;refine ZWL ?_)
    have:l≠m:=fun e=>h (ZBM.2 (by simp[e]));simp[this]
   ·(refine zNx (k+1) ?_;(try dsimp only))
    exact⟨by omega,by rw[Ze (by omega),Ze (by omega),h2,ZBM.1 h]⟩
   ·(refine⟨trivial,_,rfl,?_⟩;refine ZWL ?_)
    rw[List.take_of_length_le (by omega),List.take_of_length_le (by omega)] at h2;simp[h2]
end
section
open Go.RowKit

theorem ZO7 (a b:List Vx):Fn Tryz.prog 122 [dS ZI a,dS ZI b,ZK7 Tryz.prog (fun x:Vx × Vx=>[dS RV x.1,dS RV x.2]) (fun x=>dI (ZAW x.1 x.2))] (dI (ZAa a b)):=by
 refine zE Tryz.func122 39 ?_;(repeat' (first|refine zS ?_|refine ZA fun Kx hK=>?_|(refine hK _ _ ?_;clear hK)|(apply zV;(focus ((first|exact ZA3);all_goals infer_instance));exact zQ)|refine ZVp ?_))
 (first|refine ZP (t:=0) rfl ZEG fun hl0=>?_|refine ZP (t:=0) rfl ZDu fun hl0=>?_);simp only[maxLen] at hl0
 (first|refine ZP (t:=1) rfl ZEG fun hl1=>?_|refine ZP (t:=1) rfl ZDu fun hl1=>?_);simp only[maxLen] at hl1
 (refine ZV4 (X:=Nat) (fun k=>[(13,dI (k:Int)),(6,dA),(7,dA),(8,dA),(9,dA),(10,dA),(14,dA),(15,dA),(16,dA),(17,dA),(18,dA),(19,dA),(20,dA),(21,dA),(22,dA),(23,dA),(24,dA),(25,dA),(26,dA),(27,dA),(28,dA),(29,dA),(30,dA),(31,dA),(32,dA),(33,dA)]) (fun k=>[]) (fun k=>a.length-k) (fun k=>k≤a.length/\k≤b.length/\ZAa a b=ZAa (a.drop k) (b.drop k)) 0 ?start ?frame0 ?objs0 ?round)
 case start=>exact⟨Nat.zero_le _,Nat.zero_le _,rfl⟩
 case frame0=>exact zFr
 case objs0=>rfl
 case round =>
  rintro k ⟨h1,h2,h3⟩;dsimp only[ZH,z0,z1];((repeat' (first|refine zS ?_|refine ZA fun Kx hK=>?_|(refine hK _ _ ?_;clear hK)|(refine ZV0 ?_;clear hK)|(apply ZWF;exact tzV;(first|exact Z0 rfl|exact ZAw);(intro _;dsimp only[ZC,z0,z1]))|(apply ZR;exact tD;rfl;exact oD;exact hD;dsimp only[ZC,z0,z1])|(apply zV;(focus ((first|(apply ZBJ (x:=((a[k],b[k]):Vx × Vx));(exact ZVh rfl);exact aD)|exact ZBF|exact ZNw|exact ZEm|exact ZBg|exact ZA3|exact ZS);all_goals infer_instance));exact zQ)|(apply ZB;exact oD;all_goals (intro h;try exact xD))|(apply ZG;exact oD;all_goals (intro h;try exact xD))|refine ZVr ?_|refine ZVs ?_|refine ZV1 ?_|refine ZVp ?_|refine ZVx ?_|refine ZVz ?_|refine ZWC ?_));all_goals ((repeat clear hK);repeat clear Kx))
  all_goals first
   | ((refine zNx (k+1) ?_;(try dsimp only));exact⟨by omega,by omega,h3.trans (ZGv (by omega) (by omega) (by assumption))⟩)
   | ((refine⟨trivial,_,rfl,?_⟩;refine ZWH ?_);rw[h3,ZEu];repeat' split) <;> first|rfl|contradiction|omega
theorem ZHx (a b:List Vx):Fn Tryz.prog 80 [dS ZI a,dS ZI b] (dI (ZAa a b)):=by
 refine zE Tryz.func80 8 ?_;((repeat' (first|refine zS ?_|refine ZA fun Kx hK=>?_|(refine hK _ _ ?_;clear hK)|(apply zV;(focus ((first|(apply ZVm (ZO7 _ _) Tryz.call122;exact aD));all_goals infer_instance));exact zQ)|refine ZVs ?_));all_goals ((repeat clear hK);repeat clear Kx))
 all_goals (refine⟨trivial,_,rfl,?_⟩;exact fD)
theorem ZU6 (a b:List Vx):Fn Tryz.prog 36 [dS ZI a,dS ZI b] (dB (decide (a=b))):=by
 refine zE Tryz.func36 26 ?_;((repeat' (first|refine zS ?_|refine ZA fun Kx hK=>?_|(refine hK _ _ ?_;clear hK)|(apply zV;(focus ((first|exact ZEm|exact ZA3);all_goals infer_instance));exact zQ)|(apply ZG;exact oD;all_goals (intro h;try exact xD))|refine ZVr ?_|refine ZVs ?_|refine ZVp ?_|refine ZVz ?_));all_goals (first|refine WC.id ?_|((repeat clear hK);(repeat clear Kx))))
 ·(refine⟨trivial,_,rfl,?_⟩;refine ZWL ?_)
  have:a≠b:=fun e=>h (by rw[e]);simp[this]
 ·have h0:=h;(first|refine ZP (t:=0) rfl ZEG fun hl0=>?_|refine ZP (t:=0) rfl ZDu fun hl0=>?_);simp only[maxLen] at hl0
  have h0':a.length=b.length:=by omega
  (refine ZV4 (X:=Nat) (fun k=>[(13,dI (k:Int)),(4,dA),(5,dA),(14,dA),(15,dA),(16,dA),(17,dA),(18,dA),(19,dA),(20,dA),(21,dA),(22,dA),(23,dA),(24,dA),(25,dA)]) (fun k=>[]) (fun k=>a.length-k) (fun k=>k≤a.length/\a.take k=b.take k) 0 ?start ?frame0 ?objs0 ?round)
  case start=>simp
  case frame0=>exact zFr
  case objs0=>rfl
  case round =>
   rintro k ⟨h1,h2⟩;dsimp only[ZH,z0,z1];((repeat' (first|refine zS ?_|refine WD.nil ?_|refine ZA fun Kx hK=>?_|(refine hK _ _ ?_;clear hK)|(refine ZV0 ?_;clear hK)|(apply ZWB;kernel_rfl;kernel_rfl)|((first|apply ZVi|apply ZVl);(focus ((first|exact ZBF|exact ZEm|exact ZBg|exact ZS|fail);all_goals infer_instance));dsimp only[ZC,z0,z1])|(apply ZB;exact oD;all_goals (intro h;try exact xD))|(apply ZG;exact oD;all_goals (intro h;try exact xD))|refine ZVr ?_|refine ZVs ?_|refine ZV1 ?_|refine ZVp ?_|refine ZVx ?_|refine ZVz ?_|refine ZWC ?_));all_goals ((repeat clear hK);repeat clear Kx))
   ·(refine⟨trivial,_,rfl,?_⟩;refine ZWL ?_)
    have:a≠b:=fun e=>h (by subst e;rfl);simp[this]
   ·(refine zNx (k+1) ?_;(try dsimp only))
    exact⟨by omega,by rw[Ze (by omega),Ze (by omega),h2,h]⟩
   ·rw[List.take_of_length_le (by omega),List.take_of_length_le (by omega)] at h2;(refine⟨trivial,_,rfl,?_⟩;refine ZWL ?_)
    simp[h2]
end
section
def ZUs (xs:List Vx):Prop:=xs.Pairwise fun a b=>¬ ZAW b a<0
def ZJX (xs:List Vx) (m:Nat) (zs:List Vx):Prop:=Asc zs/\(∀v,v∈zs↔v∈xs.take m)/\zs.getLast?=xs[m-1]?
theorem ZRY {zs:List Vx} {l:Vx} (h:Asc zs) (hl:zs.getLast?=some l):∀a∈zs,a=l\/ZAW a l<0:=by
 obtain⟨ys,rfl⟩:=List.getLast?_eq_some_iff.1 hl;intro a ha;rcases List.mem_append.1 ha with ha|ha
 ·exact .inr ((List.pairwise_append.1 h).2.2 a ha l (by simp))
 ·exact .inl (by simpa using ha)
theorem ZNU {xs:List Vx} (h:1≤xs.length):ZJX xs 1 (xs.take 1):=by
 match xs,h with
 | x::l,_=>exact⟨by simp[Asc],fun v=>Iff.rfl,by simp⟩
theorem ZKF {xs zs:List Vx} {m:Nat} (hs:ZUs xs) (h:ZJX xs m zs) (h1:1≤m) (h2:m<xs.length) (hne:xs[m]≠xs[m-1]'(by omega)):ZJX xs (m+1) (zs++[xs[m]]):=by
 obtain⟨ha,hm,hl⟩:=h;rw[List.getElem?_eq_getElem (by omega:m-1<xs.length)] at hl;have hlt:ZAW (xs[m-1]'(by omega)) xs[m]<0:=by
  have h3:=(List.pairwise_iff_getElem.1 hs) (m-1) m (by omega) h2 (by omega);rcases ZBl (xs[m-1]'(by omega)) xs[m] with k|k|k
  ·omega
  ·omega
  ·exact absurd k.2.2.symm hne
 refine⟨List.pairwise_append.2 ⟨ha,by simp,fun a haz b hb=>?_⟩,fun v=>?_,by simp[h2]⟩
 ·have hb':b=xs[m]:=by simpa using hb
  subst hb';rcases ZRY ha hl a haz with rfl|h4
  ·exact hlt
  ·exact ZBD h4 hlt
 ·rw[List.mem_append,hm,Zu h2];simp
theorem ZKG {xs zs:List Vx} {m:Nat} (h:ZJX xs m zs) (h1:1≤m) (h2:m<xs.length) (he:xs[m]=xs[m-1]'(by omega)):ZJX xs (m+1) zs:=by
 obtain⟨ha,hm,hl⟩:=h;refine⟨ha,fun v=>?_,?_⟩
 ·rw[hm,Zu h2];refine⟨.inl,fun h=>h.elim id fun h=>?_⟩;rw[h,he,List.mem_take_iff_getElem];exact⟨m-1,by omega,rfl⟩
 ·rw[hl,Nat.add_sub_cancel,List.getElem?_eq_getElem h2,List.getElem?_eq_getElem (by omega),he]
theorem ZMR {xs zs:List Vx} {m:Nat} (h:ZJX xs m zs) (h2:xs.length≤m):Asc zs/\∀v,v∈zs↔v∈xs:=⟨h.1,fun v=>by rw[h.2.1,List.take_of_length_le h2]⟩
end
section
open Go.RowKit

theorem ZVN {xs:List Vx} {I:Nat->Prop} {w:World} {v:Value} (h:(dS ZI xs).rd I w v):∃a m c,v = .slice a m c/\(a=none->m=0):=by
 obtain⟨ad,cap,rfl,h1,h2,h0,h3⟩:=(h:ArrK 2 RV I w v xs);refine⟨_,_,_,rfl,fun hn=>?_⟩;rcases Nat.eq_zero_or_pos xs.length with hz|hz
 ·exact hz
 ·obtain⟨us,b,off,_,_,_,had,_,_⟩:=h3 0 hz;rw[hn] at had;cases had
theorem ZTf (xs:List Vx) (hl:xs.length≤1000):InC Tryz.prog 47 [dS ZI xs] [] fun d' hp2=>∃v,d'=dX v/\(hp2=[Zx v 77 2 RV xs]\/v = .slice none 0 0/\xs=[]/\hp2=[]):=by
 (refine ZJY Tryz.func47 rfl rfl (fun hp gh hgh=>?_);simp only[Tryz.ntmps47,List.length_cons,List.length_nil,Nat.reduceAdd,Nat.reduceSub,List.replicate_succ,List.replicate_zero,List.cons_append,List.nil_append])
 ((repeat' (first |  (refine ZIQ 4 rfl fun b hb=>?_;dsimp only[z0,z1])|(apply ZVi;exact yF;dsimp only[ZC,z0,z1])|refine ZVj ?_|refine ZA fun Kx hK=>?_|(refine hK _ _ ?_;clear hK)|refine ZVk ?_ |  (apply ZC1 elV RV (by decide);(intro _;dsimp only[ZC,z0,z1]);all_goals (try infer_instance))|((first|apply ZWW|apply ZWX);exact eD;exact ZVh rfl;exact oD;decide;exact lD;(intro _;dsimp only[ZC,z0,z1]);all_goals (try infer_instance))|(apply ZVi;(focus ((first|(apply ZIK;exact ZVh rfl;(exact fun _ _ _ h=>ZVN h);exact ZDw;exact ZPL)|fail);all_goals infer_instance));dsimp only[ZC,z0,z1])|(apply ZWY;exact oD;all_goals (intro h;try exact xD))|refine ZVr ?_|refine ZVs ?_|refine ZVz ?_));all_goals ((repeat clear hK);repeat clear Kx))
 ·exact⟨trivial,_,[],rfl,rfl,_,rfl,.inr ⟨rfl,hb h,rfl⟩⟩
 ·exact⟨trivial,_,[_],rfl,rfl,_,rfl,.inl (by rw[List.nil_append])⟩
theorem ZLK {P:Program} {ops:Array Oper} {hp:List HObj} {fr:List Dat} {Q:Z4} {rest:List Oper} {b cap N k:Nat} {e:TypeId} {xs:List Vx} (hk:k≤xs.length) (h:WL P ops Q rest fr (hV b k cap e (xs.take k)::hp)):WL P ops Q rest fr (hV b N cap e xs::hp):=WL.of fun P0 B w0 w a hh hf=>by
 obtain⟨hN,tl,hg,hc1,hc2,hc3⟩:=ZEX.1 (hh.ok (hV b N cap e xs) (by simp));have hgr:w.grownBy w (hV b N cap e xs).blk:=⟨rfl,rfl,rfl,Nat.le_refl _,fun _ _ _=>rfl⟩;have e1:Zs xs++tl=Zs (xs.take k)++(Zs (xs.drop k)++tl):=by rw[<- List.append_assoc,<- ZBZ,List.take_append_drop]
 have hok:(hV b k cap e (xs.take k)).ok (fun j=>Imm P0 B (hV b N cap e xs::hp) j/\j<w.heap.size) w :=
  ZEX.2 ⟨by simp;omega,Zs (xs.drop k)++tl,by rw[<- e1];exact hg,by simp;omega,hc2,by rw[<- e1];exact hc3⟩
 exact h.on (hh.write hgr (.inl rfl) hok) (hf.mono fun _ _ hd=>Zd (o':=hV b k cap e (xs.take k)) hgr (.inl rfl) hd)
theorem ZRP {P:Program} {ops:Array Oper} {hp:List HObj} {fr:List Dat} {Q:Z4} {rest:List Oper} {dst:Option Tmp} {ty:TypeId} {ps:String} {af:Array Edge} {b cap N l bytes:Nat} {e t:TypeId} {xs:List Vx} {z:Value} {ag:Bool} {x y:Operand} {j:Int}
  (E:ElT P t e 2 z bytes ag) (hx:OpD fr x (dX (.slice (some ⟨b,0,none⟩) N cap))) (hy:OpD fr y (dI j)) (hj:j=(l:Int)) (hl:l≤N) (hm:N≤cap) (h0:0<cap) (hk:l≤xs.length)
  (h:WL P ops Q rest (ZC fr dst (dX (.slice (some ⟨b,0,none⟩) l cap))) (hV b l cap e (xs.take l)::hp)):WL P ops Q (⟨dst,.slice t x none (some y) none,ty,ps,af,none⟩::rest) fr (hV b N cap e xs::hp) :=
 WL.op rfl (SY.uptoO E hx hy hj hl hm h0) (ZLK hk h)
theorem ZJ2 (xs:List Vx) (v:Value) (hs:ZUs xs) (hl:xs.length≤1000):InC Tryz.prog 150 [dX v] [Zx v 77 2 RV xs] fun d' hp2=>∃v zs,(Asc zs/\∀u,u∈zs↔u∈xs)/\d'=dX v/\hp2=[Zx v 77 2 RV zs]:=by
 (refine ZJY Tryz.func150 rfl rfl (fun hp gh hgh=>?_);simp only[Tryz.ntmps150,List.length_cons,List.length_nil,Nat.reduceAdd,Nat.reduceSub,List.replicate_succ,List.replicate_zero,List.cons_append,List.nil_append])
 rcases Nat.lt_or_ge xs.length 2 with hx|hx
 ·have ha:Asc xs:=by
   match xs,hx with
   | [],_=>simp[Asc]
   | [x],_=>simp[Asc]
   | x::y::l,hx=>simp at hx;omega
  ((repeat' (first|refine zS ?_|refine ZA fun Kx hK=>?_|(refine hK _ _ ?_;clear hK)|(apply zV;(focus ((first|exact ZBF|exact ZA3);all_goals infer_instance));exact zQ)|(apply ZB;exact oD;all_goals (intro h;try exact xD))|refine ZVs ?_|refine ZVz ?_));all_goals ((repeat clear hK);repeat clear Kx))
  exact⟨trivial,_,[_],rfl,rfl,_,xs,⟨ha,fun _=>Iff.rfl⟩,rfl,rfl⟩
 refine ZRE (by omega) fun b cap hv hc1 hc2=>?_;subst hv;(repeat' (first|refine zS ?_|refine ZA fun Kx hK=>?_|(refine hK _ _ ?_;clear hK)|(apply zV;(focus ((first|exact ZBF|exact ZA3);all_goals infer_instance));exact zQ)|(apply ZB;exact oD;all_goals (intro h;try exact xD))|refine ZVr ?_|refine ZVp ?_))
 simp only[maxLen] at hc2;(refine ZV4 (X:=Nat) (fun k=>[(3,dI (k:Int)),(2,dA),(4,dA),(5,dA),(10,dA),(11,dA),(12,dA),(13,dA),(14,dA),(15,dA),(16,dA),(17,dA),(18,dA),(19,dA),(20,dA),(21,dA),(22,dA),(23,dA),(24,dA),(25,dA),(26,dA),(27,dA),(28,dA),(29,dA),(30,dA),(31,dA),(32,dA),(33,dA),(34,dA),(35,dA),(36,dA),(37,dA),(38,dA),(39,dA),(40,dA),(41,dA),(42,dA),(43,dA),(44,dA),(45,dA),(46,dA),(47,dA),(48,dA),(49,dA),(50,dA),(51,dA),(52,dA),(53,dA),(54,dA),(55,dA),(56,dA),(57,dA),(58,dA),(59,dA)]) (fun k=>(hV b xs.length cap 77 xs::gh::hp)) (fun k=>xs.length-k) (fun k=>1≤k/\k≤xs.length/\ZJX xs k (xs.take k)) 1 ?start ?frame0 ?objs0 ?round)
 case start=>exact⟨Nat.le_refl _,by omega,ZNU (by omega)⟩
 case frame0=>exact zFr
 case objs0=>rfl
 case round =>
  rintro k ⟨h1,h2,h3⟩;dsimp only[ZH,z0,z1];((repeat' (first|refine zS ?_|refine WD.nil ?_|refine ZA fun Kx hK=>?_|(refine hK _ _ ?_;clear hK)|(refine ZV0 ?_;clear hK)|(apply ZWB;kernel_rfl;kernel_rfl)|((first|apply ZVi|apply ZVl);(focus ((first|(apply ZJa (k:=k) elV;exact ZVh rfl;exact ZVh rfl;rfl;omega)|(apply ZJa (k:=k-1) elV;exact ZVh rfl;exact ZVh rfl;omega;omega)|(apply ZGC (k:=k) tyV;exact ZVh rfl;exact .head _;omega;omega)|(apply ZGC (k:=k-1) tyV;exact ZVh rfl;exact .head _;omega;omega)|(apply SY.fromO (l:=k) elV;exact ZVh rfl;exact ZVh rfl;rfl;omega;omega)|exact ZBF|exact ZHe|exact ZBg|exact ZLx|exact ZA3|fail);all_goals infer_instance));dsimp only[ZC,z0,z1])|(apply ZB;exact oD;all_goals (intro h;try exact xD))|refine ZVr ?_|refine ZVs ?_|refine ZV1 ?_|refine ZVp ?_|refine ZVx ?_));all_goals (first|refine WC.id ?_|((repeat clear hK);(repeat clear Kx))))
  ·have hk:k<xs.length:=by omega
   have hg:=ZKG h3 h1 hk h;(refine ZV4 (X:=Nat × Nat × List Vx) (fun x=>[(3,dI (x.2.1:Int)),(5,dI (x.1:Int)),(29,dA),(30,dA),(31,dA),(32,dA),(33,dA),(34,dA),(35,dA),(36,dA),(37,dA),(38,dA),(39,dA),(40,dA),(41,dA),(42,dA),(43,dA),(44,dA),(45,dA),(46,dA),(47,dA),(48,dA),(49,dA),(50,dA),(51,dA),(52,dA),(53,dA)]) (fun x=>(hV b xs.length cap 77 x.2.2::gh::hp)) (fun x=>xs.length-k-x.1) (fun x=>1≤x.1/\k+x.1≤xs.length/\x.2.1+1≤k+x.1/\x.2.2.length=xs.length/\ZJX xs (k+x.1) (x.2.2.take x.2.1)/\x.2.2.drop (k+x.1-1)=xs.drop (k+x.1-1)) (1,k,xs) ?start ?frame0 ?objs0 ?round)
   case start=>exact⟨Nat.le_refl _,by omega,Nat.le_refl _,rfl,hg,rfl⟩
   case frame0=>exact zFr
   case objs0=>rfl
   case round =>
    rintro⟨m,i,ys⟩ ⟨q1,q2,q3,q4,q5,q6⟩;dsimp only[ZH,z0,z1];simp only at q1 q2 q3 q4 q5 q6;have hget:∀(j:Nat) (hj:k+m-1≤j) (hj':j<xs.length),ys[j]'(by omega)=xs[j]:=fun j hj hj'=>by
     have e1:=congrArg (fun l=>l[j-(k+m-1)]?) q6;simp only[List.getElem?_drop] at e1;rw[show k+m-1+(j-(k+m-1))=j by omega,List.getElem?_eq_getElem (by omega),List.getElem?_eq_getElem hj'] at e1;exact Option.some.inj e1
    ((repeat' (first|refine zS ?_|refine WD.nil ?_|refine ZA fun Kx hK=>?_|(refine hK _ _ ?_;clear hK)|(refine ZV0 ?_;clear hK)|(apply ZWB;kernel_rfl;kernel_rfl) |  (apply ZOi (k:=i) tyV;exact ZVh rfl;exact ZVh rfl;omega;omega;dsimp only[ZC,z0,z1]) |  (apply ZOX (k:=i) (n:=xs.length-i) Tryz.underlying22 Tryz.zeroValue77;exact ZVh rfl;omega;omega;omega;dsimp only[ZC,z0,z1]) |  (apply ZRP (l:=i) elV;exact ZVh rfl;exact ZVh rfl;rfl;omega;omega;omega;(simp;omega);dsimp only[ZC,z0,z1])|((first|apply ZVi|apply ZVl);(focus ((first|(apply ZJa (k:=m) elV;exact ZVh rfl;exact ZVh rfl;rfl;omega)|(apply ZJa (k:=m-1) elV;exact ZVh rfl;exact ZVh rfl;omega;omega)|(apply ZJa (k:=i) elV;exact ZVh rfl;exact ZVh rfl;rfl;omega)|(apply ZGC (k:=k+m) tyV;exact ZVh rfl;exact .head _;omega;omega)|(apply ZGC (k:=k+m-1) tyV;exact ZVh rfl;exact .head _;omega;omega)|(apply SY.fromO (l:=i) elV;exact ZVh rfl;exact ZVh rfl;rfl;omega;omega)|exact ZBF|exact ZEm|exact ZBg|exact ZLx|exact ZA3|fail);all_goals infer_instance));dsimp only[ZC,z0,z1])|(apply ZB;exact oD;all_goals (intro h;try exact xD))|(apply ZG;exact oD;all_goals (intro h;try exact xD))|refine ZVr ?_|refine ZVs ?_|refine ZV1 ?_|refine ZVp ?_|refine ZVx ?_|refine ZVz ?_|refine ZWC ?_));all_goals ((repeat clear hK);repeat clear Kx))
    ·have hkm:k+m<xs.length:=by omega
     have e1:ys[k+m]'(by omega)=xs[k+m]:=hget _ (by omega) hkm;have e2:ys[k+m-1]'(by omega)=xs[k+m-1]:=hget _ (by omega) (by omega);rw[e1,e2] at h;rw[e1];(refine zNx (m+1,i+1,ys.set i xs[k+m]) ?_;(try dsimp only))
     refine⟨by omega,by omega,by omega,by simpa using q4,?_,?_⟩
     ·have:=ZKF hs q5 (by omega) hkm h;rw[Nat.add_assoc] at this;have e3:(ys.set i xs[k+m]).take (i+1)=ys.take i++[xs[k+m]]:=by
       rw[Ze (by simp;omega),List.take_set_of_le (by omega)];simp
      rw[e3];exact this
     ·rw[show k+(m+1)-1=(k+m-1)+1 by omega,<- List.drop_drop,<- List.drop_drop (l:=xs)];have e4:(ys.set i xs[k+m]).drop (k+m-1+1)=ys.drop (k+m-1+1):=by rw[List.drop_set_of_lt (by omega)]
      first
       | rw[List.drop_drop,List.drop_drop,e4,<- List.drop_drop,<- List.drop_drop,q6]
       | (simp only[List.drop_drop] at *;rw[e4];have:=congrArg (List.drop 1) q6;simpa[List.drop_drop] using this)
    ·have hkm:k+m<xs.length:=by omega
     have e1:ys[k+m]'(by omega)=xs[k+m]:=hget _ (by omega) hkm;have e2:ys[k+m-1]'(by omega)=xs[k+m-1]:=hget _ (by omega) (by omega);rw[e1,e2] at h;(refine zNx (m+1,i,ys) ?_;(try dsimp only))
     refine⟨by omega,by omega,by omega,q4,?_,?_⟩
     ·have:=ZKG q5 (by omega) hkm h;rw[Nat.add_assoc] at this;exact this
     ·have:=congrArg (List.drop 1) q6;rw[List.drop_drop,List.drop_drop] at this;rw[show k+(m+1)-1=k+m-1+1 by omega];exact this
    ·have e1:(ys.take i++List.replicate (xs.length-i) ((0,0):Vx)).take i=ys.take i:=by
      rw[List.take_left' (by simp;omega)]
     rw[e1];exact⟨trivial,_,[_],rfl,rfl,_,_,ZMR q5 (by omega),rfl,rfl⟩
  ·(refine zNx (k+1) ?_;(try dsimp only))
   refine⟨by omega,by omega,?_⟩;rw[Ze (by omega)];exact ZKF hs h3 h1 (by omega) h
  ·have e1:xs.take k=xs:=List.take_of_length_le (by omega);rw[e1] at h3;exact⟨trivial,_,[_],rfl,rfl,_,xs,ZMR h3 (by omega),rfl,rfl⟩

end
end Go.Proofs.YtofkoleingbbpaaGreatDoor
