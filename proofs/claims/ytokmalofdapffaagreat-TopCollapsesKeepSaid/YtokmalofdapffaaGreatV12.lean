/- Part 12: walks by contracts, and plain laws. -/
import Derived.Test.YtokmalofdapffaaGreatV11
set_option linter.unusedVariables false
set_option linter.unusedSimpArgs false
set_option linter.unusedSectionVars false
set_option maxRecDepth 100000
set_option maxHeartbeats 4000000
namespace Go.Proofs.YtokmalofdapffaaGreat
section
open Go.RowKit

theorem ZP0 (a b:List Vx):Fn Tryz.prog 30 [dS ZJ a,dS ZJ b] (dB (Zb a b)):=by
 (refine ZG Tryz.func30 rfl rfl ?_;simp only [Tryz.ntmps30,List.length_cons,List.length_nil,Nat.reduceAdd,Nat.reduceSub,List.replicate_succ,List.replicate_zero,List.cons_append,List.nil_append])
 (repeat' (first|(apply WL.opN;exact yF;dsimp only [ZB,z0,z1])|refine WL.nil ?_|refine ZA fun Kx hK=>?_|(refine hK _ _ ?_;clear hK)|refine WC.region ?_|refine WC.block ?_))
 (first|refine ZV (t:=0) rfl ZGA fun hl0=>?_|refine ZV (t:=0) rfl ZF5 fun hl0=>?_);simp only [maxLen] at hl0
 (refine ZH (X:=Nat) (fun k=>[(5,dI (k:Int)),(4,dA),(6,dA),(7,dA),(8,dA),(9,dA),(10,dA),(11,dA),(12,dA),(13,dA),(14,dA),(15,dA),(16,dA),(17,dA),(18,dA)]) (fun k=>[]) (fun k=>a.length-k) (fun k=>k≤a.length/\(a.take k).all (fun x=>decide (x∈b))=true) 0 ?start ?frame0 ?objs0 ?round)
 case start=>simp
 case frame0=>((try dsimp only [ZQ,z0,z1]);repeat (first|exact LeF.nil|refine ZD (k:=?_)))
 case objs0=>rfl
 case round =>
  rintro k ⟨h1,h2⟩
  dsimp only [ZQ,z0,z1]
  ((repeat' (first|(apply WL.opN;exact yF;dsimp only [ZB,z0,z1])|refine WL.nil ?_|refine ZA fun Kx hK=>?_|(refine hK _ _ ?_;clear hK)|(refine Kont.skip ?_;clear hK)|refine WC.region ?_|(apply WL.opN;(focus ((first|(apply SY.call (has_c _ _) Tryz.call59;(exact aD))|exact ZCB|exact ZOr|exact ZCu|exact ZBw|exact ZS|fail);all_goals infer_instance));dsimp only [ZB,z0,z1])|(apply WC.condD;(exact oD);all_goals (intro h;try exact xD))|(apply WC.condN;(exact oD);all_goals (intro h;try exact xD))|refine WC.skip ?_|refine WC.ret ?_|refine WC.exit ?_|refine WC.block ?_|refine ThenD.n ?_|refine ThenD.r ?_|refine InBlockD.r ?_));all_goals (first|((repeat clear hK);(repeat clear Kx))))
  ·(refine ⟨trivial,_,rfl,?_⟩;refine FinD.b ?_)
   unfold Zb
   symm
   rw [List.all_eq_false]
   exact ⟨a[k],List.getElem_mem _,by simpa using h⟩
  ·(refine ⟨k+1,?_,by first|omega|(simp only;omega),rfl,?_⟩;rotate_left;((try dsimp only [ZQ,z0,z1]);repeat (first|exact LeF.nil|refine ZD (k:=?_)));(try dsimp only))
   exact ⟨by omega,by rw [ZPO (by omega),h2];simpa using h⟩
  ·(refine ⟨trivial,_,rfl,?_⟩;refine FinD.b ?_)
   rw [List.take_of_length_le (by omega)] at h2
   exact h2.symm
end
section
open Go.RowKit

set_option maxHeartbeats 4000000 in
theorem ZM1 (a b:List Vx):Fn Tryz.prog 63 [dS ZJ a,dS ZJ b,ZKS Tryz.prog (fun x:Vx × Vx=>[dS RV x.1,dS RV x.2]) (fun x=>dI (ZCL x.1 x.2))] (dI (ZAB a b)):=by
 (refine ZG Tryz.func63 rfl rfl ?_;simp only [Tryz.ntmps63,List.length_cons,List.length_nil,Nat.reduceAdd,Nat.reduceSub,List.replicate_succ,List.replicate_zero,List.cons_append,List.nil_append])
 (repeat' (first|(apply WL.opN;exact yF;dsimp only [ZB,z0,z1])|refine WL.nil ?_|refine ZA fun Kx hK=>?_|(refine hK _ _ ?_;clear hK)|refine WC.region ?_|(apply WL.opN;(focus ((first|exact ZBw|fail);all_goals infer_instance));dsimp only [ZB,z0,z1])|refine WC.block ?_))
 (first|refine ZV (t:=0) rfl ZGA fun hl0=>?_|refine ZV (t:=0) rfl ZF5 fun hl0=>?_);simp only [maxLen] at hl0
 (first|refine ZV (t:=1) rfl ZGA fun hl1=>?_|refine ZV (t:=1) rfl ZF5 fun hl1=>?_);simp only [maxLen] at hl1
 (refine ZH (X:=Nat) (fun k=>[(13,dI (k:Int)),(6,dA),(7,dA),(8,dA),(9,dA),(10,dA),(14,dA),(15,dA),(16,dA),(17,dA),(18,dA),(19,dA),(20,dA),(21,dA),(22,dA),(23,dA),(24,dA),(25,dA),(26,dA),(27,dA),(28,dA),(29,dA),(30,dA),(31,dA),(32,dA),(33,dA)]) (fun k=>[]) (fun k=>a.length-k) (fun k=>k≤a.length/\k≤b.length/\ZAB a b=ZAB (a.drop k) (b.drop k)) 0 ?start ?frame0 ?objs0 ?round)
 case start=>exact ⟨Nat.zero_le _,Nat.zero_le _,rfl⟩
 case frame0=>((try dsimp only [ZQ,z0,z1]);repeat (first|exact LeF.nil|refine ZD (k:=?_)))
 case objs0=>rfl
 case round =>
  rintro k ⟨h1,h2,h3⟩
  dsimp only [ZQ,z0,z1]
  ((repeat' (first|(apply WL.opN;exact yF;dsimp only [ZB,z0,z1])|refine WL.nil ?_|refine ZA fun Kx hK=>?_|(refine hK _ _ ?_;clear hK)|(refine Kont.skip ?_;clear hK)|refine WC.region ?_|(apply WL.alloc;(exact tzV);(first|exact ZZ rfl|exact Zw);(intro _;dsimp only [ZB,z0,z1]))|(apply ZI;(exact tD);rfl;(exact oD);(exact hD);dsimp only [ZB,z0,z1])|(apply WL.opN;(focus ((first|(apply ZAu (x:=((a[k],b[k]):Vx × Vx));(exact OpD.t rfl);(exact aD))|exact ZCB|exact ZQq|exact ZE0|exact ZCu|exact ZBw|exact ZS|fail);all_goals infer_instance));dsimp only [ZB,z0,z1])|(apply WC.condD;(exact oD);all_goals (intro h;try exact xD))|(apply WC.condN;(exact oD);all_goals (intro h;try exact xD))|refine WC.skip ?_|refine WC.ret ?_|refine WC.exit ?_|refine WC.block ?_|refine ThenD.n ?_|refine ThenD.r ?_|refine InBlockD.r ?_));all_goals (first|((repeat clear hK);(repeat clear Kx))))
  all_goals first
   | ((refine ⟨k+1,?_,by first|omega|(simp only;omega),rfl,?_⟩;rotate_left;((try dsimp only [ZQ,z0,z1]);repeat (first|exact LeF.nil|refine ZD (k:=?_)));(try dsimp only));exact ⟨by omega,by omega,h3.trans (ZFZ (by omega) (by omega) (by assumption))⟩)
   | ((refine ⟨trivial,_,rfl,?_⟩;refine FinD.i ?_);rw [h3,ZD2];repeat' split) <;> first|rfl|contradiction|omega
theorem ZDg (a b:List Vx):Fn Tryz.prog 35 [dS ZJ a,dS ZJ b] (dI (ZAB a b)):=by
 (refine ZG Tryz.func35 rfl rfl ?_;simp only [Tryz.ntmps35,List.length_cons,List.length_nil,Nat.reduceAdd,Nat.reduceSub,List.replicate_succ,List.replicate_zero,List.cons_append,List.nil_append])
 ((repeat' (first|(apply WL.opN;exact yF;dsimp only [ZB,z0,z1])|refine WL.nil ?_|refine ZA fun Kx hK=>?_|(refine hK _ _ ?_;clear hK)|refine WC.region ?_|(apply WL.opN;(focus ((first|(apply SY.call (ZM1 _ _) Tryz.call63;(exact aD))|fail);all_goals infer_instance));dsimp only [ZB,z0,z1])|refine WC.ret ?_));all_goals (first|((repeat clear hK);(repeat clear Kx))))
 all_goals (refine ⟨trivial,_,rfl,?_⟩;exact fD)
theorem eqV_p (a b:List Vx):Fn Tryz.prog 69 [dS ZJ a,dS ZJ b] (dB (decide (a=b))):=by
 (refine ZG Tryz.func69 rfl rfl ?_;simp only [Tryz.ntmps69,List.length_cons,List.length_nil,Nat.reduceAdd,Nat.reduceSub,List.replicate_succ,List.replicate_zero,List.cons_append,List.nil_append])
 ((repeat' (first|((first|apply WL.opN|apply WD.opN);exact yF;dsimp only [ZB,z0,z1])|refine WL.nil ?_|refine ZA fun Kx hK=>?_|(refine hK _ _ ?_;clear hK)|refine WC.region ?_|((first|apply WL.opN|apply WD.opN);(focus ((first|exact ZE0|exact ZBw|fail);all_goals infer_instance));dsimp only [ZB,z0,z1])|(apply WC.condN;(exact oD);all_goals (intro h;try exact xD))|refine WC.skip ?_|refine WC.ret ?_|refine WC.block ?_|refine ThenD.r ?_));all_goals (first|refine WC.id ?_|((repeat clear hK);(repeat clear Kx))))
 ·(refine ⟨trivial,_,rfl,?_⟩;refine FinD.b ?_)
  have:a≠b:=fun e=>h (by rw [e])
  simp [this]
 ·have h0:=h
  (first|refine ZV (t:=0) rfl ZGA fun hl0=>?_|refine ZV (t:=0) rfl ZF5 fun hl0=>?_);simp only [maxLen] at hl0
  have h0':a.length=b.length:=by omega
  (refine ZH (X:=Nat) (fun k=>[(13,dI (k:Int)),(4,dA),(5,dA),(14,dA),(15,dA),(16,dA),(17,dA),(18,dA),(19,dA),(20,dA),(21,dA),(22,dA),(23,dA),(24,dA),(25,dA)]) (fun k=>[]) (fun k=>a.length-k) (fun k=>k≤a.length/\a.take k=b.take k) 0 ?start ?frame0 ?objs0 ?round)
  case start=>simp
  case frame0=>((try dsimp only [ZQ,z0,z1]);repeat (first|exact LeF.nil|refine ZD (k:=?_)))
  case objs0=>rfl
  case round =>
   rintro k ⟨h1,h2⟩
   dsimp only [ZQ,z0,z1]
   ((repeat' (first|((first|apply WL.opN|apply WD.opN);exact yF;dsimp only [ZB,z0,z1])|refine WL.nil ?_|refine WD.nil ?_|refine ZA fun Kx hK=>?_|(refine hK _ _ ?_;clear hK)|(refine Kont.skip ?_;clear hK)|refine WC.region ?_|(apply WC.draw;kernel_rfl;kernel_rfl)|((first|apply WL.opN|apply WD.opN);(focus ((first|exact ZCB|exact ZE0|exact ZCu|exact ZS|fail);all_goals infer_instance));dsimp only [ZB,z0,z1])|(apply WC.condD;(exact oD);all_goals (intro h;try exact xD))|(apply WC.condN;(exact oD);all_goals (intro h;try exact xD))|refine WC.skip ?_|refine WC.ret ?_|refine WC.exit ?_|refine WC.block ?_|refine ThenD.n ?_|refine ThenD.r ?_|refine InBlockD.r ?_));all_goals (first|((repeat clear hK);(repeat clear Kx))))
   ·(refine ⟨trivial,_,rfl,?_⟩;refine FinD.b ?_)
    have:a≠b:=fun e=>h (by subst e;rfl)
    simp [this]
   ·(refine ⟨k+1,?_,by first|omega|(simp only;omega),rfl,?_⟩;rotate_left;((try dsimp only [ZQ,z0,z1]);repeat (first|exact LeF.nil|refine ZD (k:=?_)));(try dsimp only))
    exact ⟨by omega,by rw [ZU (by omega),ZU (by omega),h2,h]⟩
   ·rw [List.take_of_length_le (by omega),List.take_of_length_le (by omega)] at h2
    (refine ⟨trivial,_,rfl,?_⟩;refine FinD.b ?_)
    simp [h2]
end
section
open Go.RowKit

theorem ZS4 {xs:List Vx} {I:Nat->Prop} {w:World} {v:Value} (h:(dS ZJ xs).rd I w v):∃ a m c,v = .slice a m c/\(a=none->m=0):=by
 obtain ⟨ad,cap,rfl,h1,h2,h0,h3⟩:=(h:ArrK 2 RV I w v xs)
 refine ⟨_,_,_,rfl,fun hn=>?_⟩
 rcases Nat.eq_zero_or_pos xs.length with hz|hz
 ·exact hz
 ·obtain ⟨us,b,off,_,_,_,had,_,_⟩:=h3 0 hz
  rw [hn] at had;cases had
theorem ZRX (xs:List Vx) (hl:xs.length≤1000):InC Tryz.prog 44 [dS ZJ xs] [] fun d' hp2=>∃ v,d'=dX v/\(hp2=[Zg v 47 2 RV xs]\/v = .slice none 0 0/\xs=[]/\hp2=[]):=by
 (refine ZL7 Tryz.func44 rfl rfl (fun hp gh hgh=>?_);simp only [Tryz.ntmps44,List.length_cons,List.length_nil,Nat.reduceAdd,Nat.reduceSub,List.replicate_succ,List.replicate_zero,List.cons_append,List.nil_append])
 ((repeat' (first |  (refine ZE6 4 rfl fun b hb=>?_;dsimp only [z0,z1])|(apply WL.opN;exact yF;dsimp only [ZB,z0,z1])|refine WL.nil ?_|refine ZA fun Kx hK=>?_|(refine hK _ _ ?_;clear hK)|refine WC.region ?_ |  (apply ZEO elV RV (by decide);(intro _;dsimp only [ZB,z0,z1]);all_goals (try infer_instance))|((first|apply WL.appK|apply WL.app1);(exact eD);exact OpD.t rfl;(exact oD);decide;(exact lD);(intro _;dsimp only [ZB,z0,z1]);all_goals (try infer_instance))|(apply WL.opN;(focus ((first|(apply ZE2;exact OpD.t rfl;(exact fun _ _ _ h=>ZS4 h);exact ZP5;exact ZNJ)|fail);all_goals infer_instance));dsimp only [ZB,z0,z1])|(apply WC.cond;(exact oD);all_goals (intro h;try exact xD))|refine WC.skip ?_|refine WC.ret ?_|refine ThenD.r ?_));all_goals (first|((repeat clear hK);(repeat clear Kx))))
 ·exact ⟨trivial,_,[],rfl,rfl,_,rfl,.inr ⟨rfl,hb h,rfl⟩⟩
 ·exact ⟨trivial,_,[_],rfl,rfl,_,rfl,.inl (by rw [List.nil_append])⟩
theorem ZJT {P:Program} {ops:Array Oper} {hp:List HObj} {fr:List Dat} {Q:ZAE} {rest:List Oper} {b cap N k:Nat} {e:TypeId} {xs:List Vx} (hk:k≤xs.length) (h:WL P ops Q rest fr (hV b k cap e (xs.take k)::hp)):WL P ops Q rest fr (hV b N cap e xs::hp):=WL.of fun P0 B w0 w a hh hf=>by
 obtain ⟨hN,tl,hg,hc1,hc2,hc3⟩:=ZC8.1 (hh.ok (hV b N cap e xs) (by simp))
 have hgr:w.grownBy w (hV b N cap e xs).blk:=⟨rfl,rfl,rfl,Nat.le_refl _,fun _ _ _=>rfl⟩
 have e1:ZT xs++tl=ZT (xs.take k)++(ZT (xs.drop k)++tl):=by rw [<- List.append_assoc,<- ZAq,List.take_append_drop]
 have hok:(hV b k cap e (xs.take k)).ok (fun j=>Imm P0 B (hV b N cap e xs::hp) j/\j<w.heap.size) w :=
  ZC8.2 ⟨by simp;omega,ZT (xs.drop k)++tl,by rw [<- e1];exact hg,by simp;omega,hc2,by rw [<- e1];exact hc3⟩
 exact h.on (hh.write hgr (.inl rfl) hok) (hf.mono fun _ _ hd=>ZN (o':=hV b k cap e (xs.take k)) hgr (.inl rfl) hd)
end
end Go.Proofs.YtokmalofdapffaaGreat
