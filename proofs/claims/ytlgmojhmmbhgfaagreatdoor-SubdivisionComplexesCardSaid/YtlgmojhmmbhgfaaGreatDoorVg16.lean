/- Part 16: walks by contracts, and plain laws. -/
import Derived.Test.YtlgmojhmmbhgfaaGreatDoorVg15
set_option linter.unusedVariables false
set_option linter.unusedSimpArgs false
set_option linter.unusedSectionVars false
set_option maxRecDepth 100000
set_option maxHeartbeats 4000000
namespace Go.Proofs.YtlgmojhmmbhgfaaGreatDoor
section
open Go.RowKit

theorem ZHC (x:Vx):Fn Tryz.prog 103 [dS RV x] (dB (ZEt x)):=by
 (refine ZG Tryz.func103 rfl rfl ?_;simp only [Tryz.ntmps103,List.length_cons,List.length_nil,Nat.reduceAdd,Nat.reduceSub,List.replicate_succ,List.replicate_zero,List.cons_append,List.nil_append])
 ((repeat' (first|(apply WL.opN;exact yF;dsimp only [ZB,z0,z1])|refine WL.nil ?_|refine ZA fun Kx hK=>?_|(refine hK _ _ ?_;clear hK)|refine WC.region ?_|(apply ZJ;(focus (first|exact wN|(apply ZF;(exact wY);((first|exact ZCJ|exact yLeq|exact ZR1|exact ZFT|exact ZAT|exact ZEB|exact ZKY|fail);all_goals infer_instance))));dsimp only [ZB,z0,z1])|((first|refine Za rfl rfl rfl (fun h=>?_) (fun h=>?_)|refine ZZ rfl rfl rfl (fun h=>?_) (fun h=>?_)|refine ZT rfl rfl rfl (fun h=>?_) (fun h=>?_)) <;> (first|(exfalso;first|omega|contradiction)|(dsimp only [z0,z1])))|refine WC.ret ?_));all_goals (first|((repeat clear hK);(repeat clear Kx))))
 all_goals ((refine ⟨trivial,_,rfl,?_⟩;refine FinD.b ?_);unfold ZEt;simp [*])
theorem ZSs (x:Int):Fn Tryz.prog 142 [dI x] (dB false):=by
 (refine ZG Tryz.func142 rfl rfl ?_;simp only [Tryz.ntmps142,List.length_cons,List.length_nil,Nat.reduceAdd,Nat.reduceSub,List.replicate_succ,List.replicate_zero,List.cons_append,List.nil_append])
 ((repeat' (first|(apply WL.opN;exact yF;dsimp only [ZB,z0,z1])|refine WL.nil ?_|refine ZA fun Kx hK=>?_|(refine hK _ _ ?_;clear hK)|refine WC.region ?_|(apply WL.opN;(focus ((first|exact ZJo|fail);all_goals infer_instance));dsimp only [ZB,z0,z1])|refine WC.ret ?_));all_goals (first|((repeat clear hK);(repeat clear Kx))))
 all_goals ((refine ⟨trivial,_,rfl,?_⟩;refine FinD.b ?_);simp)
def ZSX (x y:Int):Int:=if x<y then -1 else if y<x then 1 else 0
theorem ZNa (x y:Int):Fn Tryz.prog 130 [dI x,dI y] (dI (ZSX x y)):=by
 (refine ZG Tryz.func130 rfl rfl ?_;simp only [Tryz.ntmps130,List.length_cons,List.length_nil,Nat.reduceAdd,Nat.reduceSub,List.replicate_succ,List.replicate_zero,List.cons_append,List.nil_append])
 ((repeat' (first|(apply WL.opN;exact yF;dsimp only [ZB,z0,z1])|refine WL.nil ?_|refine ZA fun Kx hK=>?_|(refine hK _ _ ?_;clear hK)|refine WC.region ?_|(apply WL.opN;(focus ((first|(apply SY.call (ZSs _) Tryz.call142;(exact aD))|exact ZCJ|exact ZIM|fail);all_goals infer_instance));dsimp only [ZB,z0,z1])|(apply Zi;(exact oD);(with_reducible rfl))|(apply ZC;(exact oD);all_goals (intro h;try exact xD))|refine WC.skip ?_|refine WC.ret ?_|refine ThenD.r ?_));all_goals (first|((repeat clear hK);(repeat clear Kx))))
 all_goals ((refine ⟨trivial,_,rfl,?_⟩;refine FinD.i ?_);unfold ZSX;simp [*])
 all_goals omega
def orI:List Int->Int
 | []=>0
 | x::l=>if x=0 then orI l else x
theorem ZFi {l:List Int} {k:Nat} (h:k<l.length):orI (l.drop k)=if l[k]=0 then orI (l.drop (k+1)) else l[k]:=by
 rw [List.drop_eq_getElem_cons h];rfl
theorem ZSy (l:List Int):Fn Tryz.prog 129 [dS ZBt l] (dI (orI l)):=by
 (refine ZG Tryz.func129 rfl rfl ?_;simp only [Tryz.ntmps129,List.length_cons,List.length_nil,Nat.reduceAdd,Nat.reduceSub,List.replicate_succ,List.replicate_zero,List.cons_append,List.nil_append])
 (repeat' (first|(apply WL.opN;exact yF;dsimp only [ZB,z0,z1])|refine WL.nil ?_|refine ZA fun Kx hK=>?_|(refine hK _ _ ?_;clear hK)|refine WC.region ?_|(apply WL.opN;(focus ((first|exact ZBs|fail);all_goals infer_instance));dsimp only [ZB,z0,z1])|refine WC.block ?_))
 (first|refine ZS (t:=0) rfl ZFJ fun hl0=>?_|refine ZS (t:=0) rfl ZFI fun hl0=>?_);simp only [maxLen] at hl0
 (refine WC.loopU (X:=Nat) (fun k=>[(8,dI (k:Int)),(2,dA),(5,dA),(9,dA),(10,dA),(11,dA),(12,dA),(13,dA),(14,dA),(15,dA),(16,dA)]) (fun k=>[]) (fun k=>l.length-k) (fun k=>k≤l.length/\orI l=orI (l.drop k)) 0 ?start ?frame0 ?objs0 ?round)
 case start=>exact ⟨Nat.zero_le _,rfl⟩
 case frame0=>((try dsimp only [ZK,z0,z1]);repeat (first|exact LeF.nil|refine ZD (k:=?_)))
 case objs0=>rfl
 case round =>
  rintro k ⟨h1,h2⟩
  dsimp only [ZK,z0,z1]
  ((repeat' (first|(apply WL.opN;exact yF;dsimp only [ZB,z0,z1])|refine WL.nil ?_|refine ZA fun Kx hK=>?_|(refine hK _ _ ?_;clear hK)|(refine Kont.skip ?_;clear hK)|refine WC.region ?_|(apply WL.opN;(focus ((first|exact ZCJ|exact ZJo|exact ZC1|exact ZX|fail);all_goals infer_instance));dsimp only [ZB,z0,z1])|(apply ZC;(exact oD);all_goals (intro h;try exact xD))|(apply ZL;(exact oD);all_goals (intro h;try exact xD))|refine WC.skip ?_|refine WC.ret ?_|refine WC.exit ?_|refine WC.block ?_|refine ThenD.n ?_|refine ThenD.r ?_|refine InBlockD.r ?_));all_goals (first|((repeat clear hK);(repeat clear Kx))))
  ·(refine ⟨trivial,_,rfl,?_⟩;refine FinD.i ?_)
   rw [h2,ZFi (by omega),if_neg h]
  ·(refine ⟨k+1,?_,by first|omega|(simp only;omega),rfl,?_⟩;rotate_left;((try dsimp only [ZK,z0,z1]);repeat (first|exact LeF.nil|refine ZD (k:=?_)));(try dsimp only))
   exact ⟨by omega,by rw [h2,ZFi (by omega),if_pos h]⟩
  ·(refine ⟨trivial,_,rfl,?_⟩;refine FinD.i ?_)
   rw [h2,List.drop_of_length_le (by omega)];rfl
theorem ZNc (x y:Vx):orI [ZSX x.1 y.1,ZSX x.2 y.2]=ZA0 x y:=by
 unfold ZA0 ZSX orI orI orI
 repeat' split
 all_goals first|rfl|omega
theorem ZH1 (x y:Vx):Fn Tryz.prog 100 [dS RV x,dS RV y] (dI (ZA0 x y)):=by
 (refine ZG Tryz.func100 rfl rfl ?_;simp only [Tryz.ntmps100,List.length_cons,List.length_nil,Nat.reduceAdd,Nat.reduceSub,List.replicate_succ,List.replicate_zero,List.cons_append,List.nil_append])
 ((repeat' (first|((first|apply WL.opN|apply WD.opN);exact yF;dsimp only [ZB,z0,z1])|refine WL.nil ?_|refine WD.nil ?_|refine ZA fun Kx hK=>?_|(refine hK _ _ ?_;clear hK)|refine WC.region ?_|(apply WC.draw;kernel_rfl;kernel_rfl)|((first|apply WL.opN|apply WD.opN);(focus ((first|(apply SY.call (ZNa _ _) Tryz.call130;(exact aD))|(apply SY.call (ZSy [_,_]) Tryz.call129;(exact aD))|exact ZAT|exact ZCI|exact ZKY|fail);all_goals infer_instance));dsimp only [ZB,z0,z1])|refine WC.ret ?_));all_goals (first|((repeat clear hK);(repeat clear Kx))))
 all_goals ((refine ⟨trivial,_,rfl,?_⟩;refine FinD.i ?_);exact ZNc _ _)
set_option maxHeartbeats 4000000 in
theorem ZJ6 (s:List Vx):Fn Tryz.prog 73 [dS ZE s] (dI (ZAJ s)):=by
 (refine ZG Tryz.func73 rfl rfl ?_;simp only [Tryz.ntmps73,List.length_cons,List.length_nil,Nat.reduceAdd,Nat.reduceSub,List.replicate_succ,List.replicate_zero,List.cons_append,List.nil_append])
 ((repeat' (first|((first|apply WL.opN|apply WD.opN);exact yF;dsimp only [ZB,z0,z1])|refine WL.nil ?_|refine ZA fun Kx hK=>?_|(refine hK _ _ ?_;clear hK)|refine WC.region ?_|((first|apply ZJ|apply WD.op);(focus (first|exact wN|(apply ZF;(exact wY);((first|exact ZIM|exact ZKZ|exact ZBs|fail);all_goals infer_instance))));dsimp only [ZB,z0,z1])|(apply ZC;(exact oD);all_goals (intro h;try exact xD))|refine WC.skip ?_|refine WC.ret ?_|refine WC.block ?_|refine ThenD.r ?_|refine InBlockD.r ?_));all_goals (first|refine WC.id ?_|((repeat clear hK);(repeat clear Kx))))
 ·(refine ⟨trivial,_,rfl,?_⟩;refine FinD.i ?_)
  unfold ZAJ;rw [if_pos (by omega)]
 ·(refine ⟨trivial,_,rfl,?_⟩;refine FinD.i ?_)
  unfold ZAJ;rw [if_neg (by omega),if_pos (by omega)]
 ·rename_i h1 h2
  have hs:ZAJ s=ZMb none s:=by unfold ZAJ;rw [if_neg (by omega),if_neg (by omega)]
  (refine WC.loopU (X:=Nat) (fun k=>[(15,dI (k:Int)),(2,dA),(3,dA),(4,dA),(16,dA),(17,dA),(18,dA),(19,dA),(20,dA),(21,dA),(22,dA),(23,dA),(24,dA),(25,dA),(26,dA),(27,dA),(28,dA),(29,dA),(30,dA),(31,dA),(32,dA),(33,dA),(34,dA),(35,dA)]) (fun k=>[]) (fun k=>s.length-k) (fun k=>k≤s.length/\ZAJ s=ZMb (s.take k).getLast? (s.drop k)) 0 ?start ?frame0 ?objs0 ?round)
  case start=>exact ⟨Nat.zero_le _,by rw [hs];rfl⟩
  case frame0=>((try dsimp only [ZK,z0,z1]);repeat (first|exact LeF.nil|refine ZD (k:=?_)))
  case objs0=>rfl
  case round =>
   rintro k ⟨h3,h4⟩
   dsimp only [ZK,z0,z1]
   ((repeat' (first|((first|apply WL.opN|apply WD.opN);exact yF;dsimp only [ZB,z0,z1])|refine WL.nil ?_|refine WD.nil ?_|refine ZA fun Kx hK=>?_|(refine hK _ _ ?_;clear hK)|(refine Kont.skip ?_;clear hK)|refine WC.region ?_|(apply WC.draw;kernel_rfl;kernel_rfl)|(apply WL.alloc;(exact tzV);(first|exact ZY rfl|exact ZAF);(intro _;dsimp only [ZB,z0,z1]))|(apply ZN;(exact tD);rfl;(exact oD);(exact hD);dsimp only [ZB,z0,z1])|((first|apply ZJ|apply WD.op);(focus (first|exact wN|(apply ZF;(exact wY);((first|(apply SY.call (ZH1 _ _) Tryz.call100;(exact aD))|(apply SY.call (ZHC _) Tryz.call103;(exact aD))|(apply ZC8 elV (OpD.t rfl) (OpD.t rfl) (k-1);omega;omega)|exact ZEs|exact ZCJ|exact ZIM|exact ZR1|exact ZMd|exact ZC1|exact ZMe|exact ZFT|exact ZX|exact ZEB|fail);all_goals infer_instance))));dsimp only [ZB,z0,z1])|((first|refine Za rfl rfl rfl (fun h=>?_) (fun h=>?_)|refine ZZ rfl rfl rfl (fun h=>?_) (fun h=>?_)|refine ZT rfl rfl rfl (fun h=>?_) (fun h=>?_)|refine ZAE rfl rfl rfl (fun h=>?_) (fun h=>?_)|refine ZAD rfl rfl rfl (fun h=>?_) (fun h=>?_)|refine Zu rfl rfl rfl (fun h=>?_) (fun h=>?_)) <;> (first|(exfalso;first|omega|contradiction)|(dsimp only [z0,z1])))|(apply Zi;(exact oD);(with_reducible rfl))|(apply ZC;(exact oD);all_goals (intro h;try exact xD))|(apply Z7;(exact oD);all_goals (intro h;try exact xD))|refine WC.skip ?_|refine WC.ret ?_|refine WC.exit ?_|refine WC.block ?_|refine ThenD.n ?_|refine ThenD.r ?_|refine InBlockD.r ?_));all_goals (first|((repeat clear hK);(repeat clear Kx))))
   all_goals try (rw [ZIo s k (by omega)] at h4)
   ·(refine ⟨trivial,_,rfl,?_⟩;refine FinD.i ?_)
    rw [h4,if_pos h]
   ·(refine ⟨trivial,_,rfl,?_⟩;refine FinD.i ?_)
    have h5:ZEt s[k]=true:=by assumption
    rw [h4,if_neg (by simp [h5]),ZEd _ _ (by omega) (by omega),if_pos (by simpa using h)]
   ·(refine ⟨k+1,?_,by first|omega|(simp only;omega),rfl,?_⟩;rotate_left;((try dsimp only [ZK,z0,z1]);repeat (first|exact LeF.nil|refine ZD (k:=?_)));(try dsimp only))
    refine ⟨by omega,?_⟩
    have h5:ZEt s[k]=true:=by assumption
    rw [h4,if_neg (by simp [h5]),ZEd _ _ (by omega) (by omega),if_neg (by simpa using h)]
   ·(refine ⟨k+1,?_,by first|omega|(simp only;omega),rfl,?_⟩;rotate_left;((try dsimp only [ZK,z0,z1]);repeat (first|exact LeF.nil|refine ZD (k:=?_)));(try dsimp only))
    refine ⟨by omega,?_⟩
    have h5:ZEt s[k]=true:=by assumption
    have h0:(s.take k).getLast?=none:=by
     have:k=0:=by omega
     rw [this];rfl
    rw [h4,if_neg (by simp [h5]),h0]
    rfl
   ·(refine ⟨trivial,_,rfl,?_⟩;refine FinD.i ?_)
    rw [h4,List.drop_of_length_le (by omega)]
    rfl
end
section
open Go.RowKit

theorem tyF:TyI Tryz.prog 138 1 false:=⟨by kernel_rfl,Tryz.isAgg138⟩
theorem tyFL:TyI Tryz.prog 83 1 false:=⟨by kernel_rfl,Tryz.isAgg83⟩
abbrev dPred (p:Vx->Bool):Dat:=ZJm Tryz.prog (fun v=>[dS RV v]) (fun v=>dB (p v))
def ZIK {α:Type} (p:α->Bool):Nat->List α->Int
 | _,[]=>-1
 | k,x::l=>if p x=true then (k:Int) else ZIK p (k+1) l
theorem ZEa {α:Type} {p:α->Bool} {l:List α} {k:Nat} (h:k<l.length):ZIK p k (l.drop k)=if p l[k]=true then (k:Int) else ZIK p (k+1) (l.drop (k+1)):=by
 rw [List.drop_eq_getElem_cons h];rfl
theorem ZHo {α:Type} {p:α->Bool}:∀ (l:List α) (k:Nat),decide (0≤ZIK p k l)=l.any p
 | [],k=>by simp [ZIK]
 | x::l,k=>by
  unfold ZIK
  rw [List.any_cons]
  split
  ·rename_i h;rw [h];simp
  ·rename_i h;rw [ZHo l];simp [h]
theorem idx_p (l:List Vx) (v:Vx):Fn Tryz.prog 85 [dS ZE l,dS RV v] (dI (ZIK (fun y=>decide (v=y)) 0 l)):=by
 (refine ZG Tryz.func85 rfl rfl ?_;simp only [Tryz.ntmps85,List.length_cons,List.length_nil,Nat.reduceAdd,Nat.reduceSub,List.replicate_succ,List.replicate_zero,List.cons_append,List.nil_append])
 (repeat' (first|((first|apply WL.opN|apply WD.opN);exact yF;dsimp only [ZB,z0,z1])|refine WL.nil ?_|refine ZA fun Kx hK=>?_|(refine hK _ _ ?_;clear hK)|refine WC.region ?_|((first|apply WL.opN|apply WD.opN);(focus ((first|exact ZBs|exact ZKY|fail);all_goals infer_instance));dsimp only [ZB,z0,z1])|refine WC.block ?_))
 (first|refine ZS (t:=0) rfl ZFJ fun hl0=>?_|refine ZS (t:=0) rfl ZFI fun hl0=>?_);simp only [maxLen] at hl0
 (refine WC.loopU (X:=Nat) (fun k=>[(8,dI (k:Int)),(4,dA),(5,dA),(9,dA),(10,dA),(11,dA),(12,dA),(13,dA),(14,dA),(15,dA),(16,dA),(17,dA),(18,dA)]) (fun k=>[]) (fun k=>l.length-k) (fun k=>k≤l.length/\ZIK (fun y=>decide (v=y)) 0 l=ZIK (fun y=>decide (v=y)) k (l.drop k)) 0 ?start ?frame0 ?objs0 ?round)
 case start=>exact ⟨Nat.zero_le _,rfl⟩
 case frame0=>((try dsimp only [ZK,z0,z1]);repeat (first|exact LeF.nil|refine ZD (k:=?_)))
 case objs0=>rfl
 case round =>
  rintro k ⟨h1,h2⟩
  dsimp only [ZK,z0,z1]
  ((repeat' (first|((first|apply WL.opN|apply WD.opN);exact yF;dsimp only [ZB,z0,z1])|refine WL.nil ?_|refine WD.nil ?_|refine ZA fun Kx hK=>?_|(refine hK _ _ ?_;clear hK)|(refine Kont.skip ?_;clear hK)|refine WC.region ?_|(apply WC.draw;kernel_rfl;kernel_rfl)|((first|apply WL.opN|apply WD.opN);(focus ((first|exact ZCJ|exact ZKZ|exact ZC1|exact ZX|fail);all_goals infer_instance));dsimp only [ZB,z0,z1])|(apply ZC;(exact oD);all_goals (intro h;try exact xD))|refine WC.skip ?_|refine WC.ret ?_|refine WC.exit ?_|refine WC.block ?_|refine ThenD.n ?_|refine ThenD.r ?_|refine InBlockD.r ?_));all_goals (first|((repeat clear hK);(repeat clear Kx))))
  ·(refine ⟨trivial,_,rfl,?_⟩;refine FinD.i ?_)
   rw [h2,ZEa (by omega),if_pos (by simpa using h)]
  ·(refine ⟨k+1,?_,by first|omega|(simp only;omega),rfl,?_⟩;rotate_left;((try dsimp only [ZK,z0,z1]);repeat (first|exact LeF.nil|refine ZD (k:=?_)));(try dsimp only))
   exact ⟨by omega,by rw [h2,ZEa (by omega),if_neg (by simpa using h)]⟩
  ·(refine ⟨trivial,_,rfl,?_⟩;refine FinD.i ?_)
   rw [h2,List.drop_of_length_le (by omega)];rfl
end
section
open Go.RowKit

abbrev ZSY (s:List Vx) (p:Vx->Bool):Dat:=ZJm Tryz.prog (fun v:{v:Vx // v∈s}=>[dS RV v.1]) (fun v=>dB (p v.1))
theorem ZOJ {s:List Vx} {p:Vx->Bool}:(dPred p).le (ZSY s p):=fun _ _ _ ⟨f,cap,h1,h0,h2⟩=>⟨f,cap,h1,h0,fun w' hw' x=>h2 w' hw' x.1⟩
theorem ZJ8:∀ (s:List Vx),s.length≤1->Z0 s=true
 | [],_=>rfl
 | [_],_=>rfl
 | _::_::_,h=>by simp at h
theorem ZNY (s:List Vx):Fn Tryz.prog 55 [dS ZE s] (dT [dB (ZET s).1,dI (ZET s).2]):=by
 (refine ZBF Tryz.func55 rfl rfl ?_;simp only [Tryz.ntmps55,List.length_cons,List.length_nil,Nat.reduceAdd,Nat.reduceSub,List.replicate_succ,List.replicate_zero,List.cons_append,List.nil_append])
 ((repeat' (first|((first|apply WL.opN|apply WD.opN);exact yF;dsimp only [ZB,z0,z1])|refine WL.nil ?_|refine ZA fun Kx hK=>?_|(refine hK _ _ ?_;clear hK)|refine WC.region ?_|((first|apply WL.opN|apply WD.opN);(focus ((first|(apply SY.call (ZJ6 _) Tryz.call73;(exact aD))|exact ZJo|fail);all_goals infer_instance));dsimp only [ZB,z0,z1])|(apply ZL;(exact oD);all_goals (intro h;try exact xD))|refine WC.skip ?_|refine WC.ret ?_|refine WC.block ?_|refine ThenD.r ?_));all_goals (first|refine WC.id ?_|((repeat clear hK);(repeat clear Kx))))
 ·(refine ⟨trivial,⟨_,rfl,?_⟩,_,rfl,?_⟩ <;> (first|refine FinD.i ?_|refine FinD.b ?_)) <;> ((unfold ZET;(repeat' split)) <;> (first|rfl|(exfalso;first|contradiction|omega)|(simp_all;done)))
 ·have h0:ZAJ s=0:=by assumption
  (first|refine ZS (t:=0) rfl ZFJ fun hl0=>?_|refine ZS (t:=0) rfl ZFI fun hl0=>?_);simp only [maxLen] at hl0
  (refine WC.loopU (X:=Nat) (fun k=>[(5,dI (k:Int)),(2,dA),(3,dA),(11,dA),(12,dA),(13,dA),(14,dA),(15,dA),(16,dA),(17,dA),(18,dA),(19,dA),(20,dA),(21,dA),(22,dA),(23,dA),(24,dA),(25,dA),(26,dA),(27,dA),(28,dA)]) (fun k=>[]) (fun k=>s.length-k) (fun k=>1≤k/\Z0 s=Z0 (s.drop (k-1))) 1 ?start ?frame0 ?objs0 ?round)
  case start=>exact ⟨Nat.le_refl _,rfl⟩
  case frame0=>((try dsimp only [ZK,z0,z1]);repeat (first|exact LeF.nil|refine ZD (k:=?_)))
  case objs0=>rfl
  case round =>
   rintro k ⟨h1,h2⟩
   dsimp only [ZK,z0,z1]
   ((repeat' (first|((first|apply WL.opN|apply WD.opN);exact yF;dsimp only [ZB,z0,z1])|refine WL.nil ?_|refine WD.nil ?_|refine ZA fun Kx hK=>?_|(refine hK _ _ ?_;clear hK)|(refine Kont.skip ?_;clear hK)|refine WC.region ?_|(apply WC.draw;kernel_rfl;kernel_rfl)|((first|apply WL.opN|apply WD.opN);(focus ((first|(apply ZC8 elV (OpD.t rfl) (OpD.t rfl) (k-1);omega;omega)|exact ZCJ|exact ZKZ|exact ZC1|exact ZMe|exact ZBs|exact ZX|exact ZAT|fail);all_goals infer_instance));dsimp only [ZB,z0,z1])|(apply ZC;(exact oD);all_goals (intro h;try exact xD))|refine WC.skip ?_|refine WC.ret ?_|refine WC.exit ?_|refine WC.block ?_|refine ThenD.n ?_|refine ThenD.r ?_|refine InBlockD.r ?_));all_goals (first|((repeat clear hK);(repeat clear Kx))))
   ·rw [ZDe h1 (by omega),if_pos h] at h2
    (refine ⟨trivial,⟨_,rfl,?_⟩,_,rfl,?_⟩ <;> (first|refine FinD.i ?_|refine FinD.b ?_)) <;> ((unfold ZET;(repeat' split)) <;> (first|rfl|(exfalso;first|contradiction|omega)|(simp_all;done)))
   ·rw [ZDe h1 (by omega),if_neg h] at h2
    (refine ⟨k+1,?_,by first|omega|(simp only;omega),rfl,?_⟩;rotate_left;((try dsimp only [ZK,z0,z1]);repeat (first|exact LeF.nil|refine ZD (k:=?_)));(try dsimp only))
    exact ⟨by omega,h2⟩
   ·rw [ZJ8 (s.drop (k-1)) (by rw [List.length_drop];omega)] at h2
    (refine ⟨trivial,⟨_,rfl,?_⟩,_,rfl,?_⟩ <;> (first|refine FinD.i ?_|refine FinD.b ?_)) <;> ((unfold ZET;(repeat' split)) <;> (first|rfl|(exfalso;first|contradiction|omega)|(simp_all;done)))
end
section
open Go.RowKit
def ZKQ (s:Nat):List Nat:=((List.range s).map (· + 1)).filter fun b=>decide (b &&& s=b)
def ZED:Nat->Nat->List (List Nat)
 | 0,_=>[[]]
 | k+1,s=>if s=0 then [[]] else (ZKQ s).flatMap fun b=>(ZED k (s-b)).map (b :: ·)
def ZBR (s:Nat):List (List Nat):=ZED 6 s
def ZB2 (s x:Nat):Nat:=((List.range 32).find? fun y=>decide (x<y) && decide (y &&& s=y)).getD 0
theorem ZFz:∀ s b:Fin 32,ZCS (b.val:Int) (s.val:Int)=0↔b.val &&& s.val=b.val:=by decide +kernel
theorem ZGu:∀ s b:Fin 32,b.val &&& s.val=b.val->ZCS (s.val:Int) (b.val:Int)=((s.val-b.val:Nat):Int)/\b.val≤s.val:=by decide +kernel
theorem ZOX:∀ s x:Fin 32,x.val &&& s.val=x.val->x.val≠s.val->ZKE ((x.val:Int)-(s.val:Int)) (s.val:Int)=(ZB2 s.val x.val:Nat):=by decide +kernel
theorem ZME:∀ s:Fin 32,ZKE (0-(s.val:Int)) (s.val:Int)=(ZB2 s.val 0:Nat)\/s.val=0:=by decide +kernel
theorem ZSt:∀ s x:Fin 32,x.val &&& s.val=x.val->x.val≠s.val->x.val<ZB2 s.val x.val/\ZB2 s.val x.val≤s.val/\ZB2 s.val x.val &&& s.val=ZB2 s.val x.val:=by decide +kernel
def ZDt (s x:Nat):List Nat:=(ZKQ s).filter fun y=>decide (x≤y)
theorem ZMH:∀ s:Fin 32,s.val≠0->ZDt s.val (ZB2 s.val 0)=ZKQ s.val:=by decide +kernel
theorem ZI5:∀ s x:Fin 32,x.val≠0->x.val &&& s.val=x.val->x.val≠s.val->ZDt s.val x.val=x.val::ZDt s.val (ZB2 s.val x.val):=by decide +kernel
theorem ZI4:∀ s:Fin 32,s.val≠0->ZDt s.val s.val=[s.val]:=by decide +kernel
theorem ZKR {s b:Nat}:b∈ZKQ s↔0<b/\b≤s/\b &&& s=b:=by
 unfold ZKQ
 rw [List.mem_filter,List.mem_map,decide_eq_true_eq]
 constructor
 ·rintro ⟨⟨a,ha,rfl⟩,h⟩
  rw [List.mem_range] at ha
  exact ⟨by omega,by omega,h⟩
 ·rintro ⟨h1,h2,h3⟩
  exact ⟨⟨b-1,by rw [List.mem_range];omega,by omega⟩,h3⟩
theorem ZGP:∀ k,ZED k 0=[[]]
 | 0=>rfl
 | k+1=>if_pos rfl
theorem ZDN {k s:Nat} (h:s≠0):ZED (k+1) s=(ZKQ s).flatMap fun b=>(ZED k (s-b)).map (b :: ·):=if_neg h
end
section
def ZMK:List (Vx × List Vx)->Vx->List Vx->List (Vx × List Vx)
 | [],v,c=>[(v,c)]
 | (x,a)::d,v,c=>if ZA0 v x<0 then (v,c)::(x,a)::d else (x,a)::ZMK d v c
def ZE7 (d:List (Vx × List Vx)) (v:Vx) (c:List Vx):List (Vx × List Vx):=if v∈d.map (·.1) then d else ZMK d v c
theorem ZLN (f:Vx->List Vx) (v:Vx):∀ vs:List Vx,ZMK (vs.map fun u=>(u,f u)) v (f v)=(ZFQ vs v).map fun u=>(u,f u)
 | []=>rfl
 | x::vs=>by
  show (if ZA0 v x<0 then _ else _)=_
  unfold ZFQ
  split
  ·rfl
  ·rw [ZLN f v vs];rfl
theorem ZRA (f:Vx->List Vx) (v:Vx) (vs:List Vx):ZE7 (vs.map fun u=>(u,f u)) v (f v)=(ZC5 vs v).map fun u=>(u,f u):=by
 have e:(vs.map fun u=>(u,f u)).map (·.1)=vs:=by
  rw [List.map_map]
  exact List.map_id' vs
 unfold ZE7 ZC5
 rw [e]
 split
 ·rfl
 ·exact ZLN f v vs
theorem allS (f:Vx->List Vx):∀ (L vs:List Vx),L.foldl (fun d v=>ZE7 d v (f v)) (vs.map fun u=>(u,f u))=(ZBE vs L).map fun u=>(u,f u)
 | [],_=>rfl
 | v::L,vs=>by
  rw [List.foldl_cons,ZRA,allS f L]
  rfl
def ZBX:List Nat->Nat->Nat->Nat
 | [],_,m=>m
 | b::l,i,m=>if (b >>> i) &&& 1=1 then m ||| b else ZBX l i (m ||| b)
def ZAk (s:List Vx) (bl:List Nat):List Vx:=s.zipIdx.map fun p=>(p.1.1,((ZBX bl p.2 0:Nat):Int))
def atB (s:List Vx) (m:Nat):List Vx:=(s.zipIdx.filter fun p=>decide ((m >>> p.2) &&& 1=1)).map (·.1)
theorem Z4 (s:List Vx) (bl:List Nat):(ZAk s bl).length=s.length:=by simp [ZAk]
end
section
def ZGf (m i:Nat):Bool:=decide ((m >>> i) &&& 1=1)
end
section
def ZLA:List Int->Int->Bool
 | [],rest=>decide (rest=0)
 | b::l,rest=>if b≤0\/ZKE b rest≠b then false else ZLA l (ZCS rest b)
def ZTF:List Int->Nat->Int->Bool
 | [],n,all=>decide (all=((2 ^ n-1:Nat):Int))
 | b::l,n,all=>if b<1\/((2 ^ n:Nat):Int)≤b\/ZKE all b≠0 then false else ZTF l n (ior all b)
theorem ZSj (b:Int) {r:Nat} (hr:r<9223372036854775808):ZKE b (r:Int)≤(r:Int):=by
 have h:(BitVec.ofInt 64 b &&& BitVec.ofInt 64 (r:Int)).toNat≤r:=by
  rw [BitVec.toNat_and,ZD1 hr]
  exact Nat.and_le_right
 unfold ZKE
 rw [ZEr (by omega)]
 omega
theorem ZO0 {n all rest b:Nat} (h1:all ||| rest=2 ^ n-1) (h2:all &&& rest=0) (hb:b &&& rest=b):(all ||| b) ||| (rest ^^^ (rest &&& b))=2 ^ n-1/\(all ||| b) &&& (rest ^^^ (rest &&& b))=0:=by
 have e:∀ i,(b.testBit i && rest.testBit i)=b.testBit i:=fun i=>by rw [<- Nat.testBit_and,hb]
 have dis:∀ i,(all.testBit i && rest.testBit i)=false:=fun i=>by rw [<- Nat.testBit_and,h2,Nat.zero_testBit]
 constructor
 ·rw [<- h1]
  apply Nat.eq_of_testBit_eq
  intro i
  simp only [Nat.testBit_or,Nat.testBit_xor,Nat.testBit_and]
  have k1:=e i
  cases ha:all.testBit i <;> cases hr:rest.testBit i <;> cases hbi:b.testBit i <;> simp_all
 ·apply Nat.eq_of_testBit_eq
  intro i
  simp only [Nat.testBit_or,Nat.testBit_xor,Nat.testBit_and,Nat.zero_testBit]
  have k1:=e i
  have k2:=dis i
  cases ha:all.testBit i <;> cases hr:rest.testBit i <;> cases hbi:b.testBit i <;> simp_all
theorem ZRk {n:Nat} (hn:n≤62):∀ (l:List Int) (all rest:Nat),all ||| rest=2 ^ n-1->all &&& rest=0->ZTF l n (all:Int)=ZLA l (rest:Int)
 | [],all,rest,h1,h2=>by
  show decide _=decide _
  have hz:all=2 ^ n-1↔rest=0:=by
   constructor
   ·intro h
    have:all &&& rest=rest:=by
     rw [h]
     have hr:rest≤2 ^ n-1:=by rw [<- h1];exact Nat.right_le_or
     rw [Nat.and_comm,Nat.and_two_pow_sub_one_eq_mod]
     exact Nat.mod_eq_of_lt (by have:=Nat.two_pow_pos n;omega)
    rw [<- this];exact h2
   ·intro h
    rw [h,Nat.or_zero] at h1
    exact h1
  exact decide_eq_decide.2 ⟨fun q=>by have:=hz.1 (by omega);omega,fun q=>by have:=hz.2 (by omega);omega⟩
 | b::l,all,rest,h1,h2=>by
  have hp:2 ^ n≤2 ^ 62:=Nat.pow_le_pow_right (by decide) hn
  have hpos:=Nat.two_pow_pos n
  have ha:all≤2 ^ n-1:=by rw [<- h1];exact Nat.left_le_or
  have hr:rest≤2 ^ n-1:=by rw [<- h1];exact Nat.right_le_or
  have h62:(2:Nat) ^ 62=4611686018427387904:=by decide
  unfold ZTF ZLA
  by_cases hb0:b<1
  ·rw [if_pos (.inl hb0),if_pos (.inl (by omega))]
  by_cases hbn:((2 ^ n:Nat):Int)≤b
  ·have:=ZSj b (r:=rest) (by omega)
   rw [if_pos (.inr (.inl hbn)),if_pos (.inr (by omega))]
  obtain ⟨k,rfl⟩:∃ k:Nat,b=(k:Int):=⟨b.toNat,by omega⟩
  have hk:k<2 ^ n:=by omega
  rw [ZEZ (by omega) (by omega),ZEZ (by omega) (by omega)]
  have hm:=ZOQ h1 h2 hk
  by_cases hc:k &&& rest=k
  ·have hz:=hm.1 hc
   rw [if_neg (by rintro (h|h|h);exact hb0 h;exact hbn h;exact h (by rw [hz];rfl)),if_neg (by rintro (h|h);omega;exact h (by rw [hc]))]
   rw [ZHs (by omega) (by omega),ZJE (by omega) (by omega)]
   obtain ⟨g1,g2⟩:=ZO0 h1 h2 hc
   exact ZRk hn l _ _ g1 g2
  ·rw [if_pos (.inr (.inr fun q=>hc (hm.2 (Int.ofNat.inj q)))),if_pos (.inr fun q=>hc (Int.ofNat.inj q))]
theorem ZQM {n:Nat} (hn:n≤62) (l:List Int):ZTF l n 0=ZLA l ((2 ^ n-1:Nat):Int):=ZRk hn l 0 (2 ^ n-1) (Nat.zero_or _) (Nat.zero_and _)
end
section
def ZBY:List Nat->Nat->(Nat->Nat)->Nat->Nat
 | [],_,o=>o
 | b::l,m,o=>ZBY l (m ||| b) fun i=>if ZGf b i=true then m ||| b else o i
def divN (n:Nat):List Nat->Nat->Prop
 | [],all=>all=2 ^ n-1
 | b::l,all=>b<2 ^ n/\all &&& b=0/\divN n l (all ||| b)
theorem ZTc {n:Nat} (hn:n≤62):∀ (l:List Int) (all:Nat),all<2 ^ n->ZTF l n (all:Int)=true->∃ bl:List Nat,l=bl.map (fun b:Nat=>(b:Int))/\divN n bl all
 | [],all,_,h=>⟨[],rfl,by
  have h':decide ((all:Int)=((2 ^ n-1:Nat):Int))=true:=h
  rw [decide_eq_true_eq] at h'
  show all=2 ^ n-1
  omega⟩
 | b::l,all,ha,h=>by
  have hp:2 ^ n≤2 ^ 62:=Nat.pow_le_pow_right (by decide) hn
  have h62:(2:Nat) ^ 62=4611686018427387904:=by decide
  unfold ZTF at h
  by_cases hc:b<1\/((2 ^ n:Nat):Int)≤b\/ZKE (all:Int) b≠0
  ·rw [if_pos hc] at h;cases h
  ·rw [if_neg hc] at h
   have h1:¬ b<1:=fun q=>hc (.inl q)
   have h2:¬ ((2 ^ n:Nat):Int)≤b:=fun q=>hc (.inr (.inl q))
   have h3:ZKE (all:Int) b=0:=Classical.byContradiction fun q=>hc (.inr (.inr q))
   obtain ⟨k,rfl⟩:∃ k:Nat,b=(k:Int):=⟨b.toNat,by omega⟩
   have hk:k<2 ^ n:=by omega
   rw [ZEZ (by omega) (by omega)] at h3
   rw [ZHs (by omega) (by omega)] at h
   obtain ⟨bl,rfl,hd⟩:=ZTc hn l (all ||| k) (Nat.or_lt_two_pow ha hk) h
   exact ⟨k::bl,rfl,hk,by omega,hd⟩
end
end Go.Proofs.YtlgmojhmmbhgfaaGreatDoor
