/- Part 27: walks by contracts, and plain laws. -/
import Derived.Test.YtofkoleingbbpaaGreatDoorVx25
import Derived.Test.YtofkoleingbbpaaGreatDoorVx26
set_option linter.unusedVariables false
set_option linter.unusedSimpArgs false
set_option linter.unusedSectionVars false
set_option maxRecDepth 100000
set_option maxHeartbeats 4000000
namespace Go.Proofs.YtofkoleingbbpaaGreatDoor
section
open Go.RowKit

set_option maxHeartbeats 8000000 in
theorem ZEq (vs:List Vx) (A:List Int):Fn Tryz.prog 14 [dS Lab (vs,A)] (dI (ZAa vs A)):=by
 obtain ⟨o,ho⟩:∃ o,ZAa vs A=o:=⟨_,rfl⟩
 rw [ho]
 unfold ZAa at ho
 (refine ZE Tryz.func14 rfl rfl ?_;simp only [Tryz.ntmps14,List.length_cons,List.length_nil,Nat.reduceAdd,Nat.reduceSub,List.replicate_succ,List.replicate_zero,List.cons_append,List.nil_append])
 by_cases h1:4096<vs.length
 ·rw [if_pos h1] at ho;subst ho
  ((repeat' (first|((first|apply WL.opN|apply WD.opN);exact yF;dsimp only [ZB,z0,z1])|refine WL.nil ?_|refine ZA fun Kx hK=>?_|(refine hK _ _ ?_;clear hK)|refine WC.region ?_|((first|apply ZF|apply WD.op);(focus (first|exact wN|(apply SYG.yes;(exact wY);((first|(refine ZP ZAG (OpD.t rfl) Zp rfl rfl)|((first|apply SY.move|apply SY.assign|apply SY.lss|apply SY.gtr|apply SY.geq|apply SY.neq|apply SY.not) <;> (exact oD))|(apply SY.len;(exact oD);(exact nD);(exact uD))|(apply SY.box;(exact oD);(exact hD))|fail);all_goals infer_instance))));dsimp only [ZB,z0,z1])|(apply ZC;(exact oD);all_goals (intro h;try exact xD))|refine WC.ret ?_|refine ThenD.r ?_));all_goals (first|((repeat clear hK);(repeat clear Kx))))
  all_goals try (exfalso;omega)
  (refine ⟨trivial,_,rfl,?_⟩;exact fD)
 rw [if_neg h1] at ho
 by_cases h2:A.length≠vs.length
 ·rw [if_pos h2] at ho;subst ho
  ((repeat' (first|((first|apply WL.opN|apply WD.opN);exact yF;dsimp only [ZB,z0,z1])|refine WL.nil ?_|refine ZA fun Kx hK=>?_|(refine hK _ _ ?_;clear hK)|refine WC.region ?_|((first|apply ZF|apply WD.op);(focus (first|exact wN|(apply SYG.yes;(exact wY);((first|(refine ZP ZAG (OpD.t rfl) Zp rfl rfl)|(apply SY.load;exact ZDW;exact OpD.t rfl)|((first|apply SY.move|apply SY.assign|apply SY.lss|apply SY.gtr|apply SY.geq|apply SY.neq|apply SY.not) <;> (exact oD))|(apply SY.len;(exact oD);(exact nD);(exact uD))|(apply SY.box;(exact oD);(exact hD))|fail);all_goals infer_instance))));dsimp only [ZB,z0,z1])|(apply ZC;(exact oD);all_goals (intro h;try exact xD))|(apply ZG;(exact oD);all_goals (intro h;try exact xD))|refine WC.skip ?_|refine WC.ret ?_|refine ThenD.r ?_));all_goals (first|((repeat clear hK);(repeat clear Kx))))
  all_goals try (exfalso;omega)
  (refine ⟨trivial,_,rfl,?_⟩;exact fD)
 rw [if_neg h2] at ho
 have hA:A.length=vs.length:=Classical.byContradiction h2
 (repeat' (first|((first|apply WL.opN|apply WD.opN);exact yF;dsimp only [ZB,z0,z1])|refine WL.nil ?_|refine ZA fun Kx hK=>?_|(refine hK _ _ ?_;clear hK)|refine WC.region ?_|((first|apply ZF|apply WD.op);(focus (first|exact wN|(apply SYG.yes;(exact wY);((first|(refine ZP ZAG (OpD.t rfl) Zp rfl rfl)|(apply SY.load;exact ZDW;exact OpD.t rfl)|((first|apply SY.move|apply SY.assign|apply SY.lss|apply SY.gtr|apply SY.geq|apply SY.neq|apply SY.not) <;> (exact oD))|(apply SY.len;(exact oD);(exact nD);(exact uD))|(apply SY.box;(exact oD);(exact hD))|fail);all_goals infer_instance))));dsimp only [ZB,z0,z1])|(apply ZC;(exact oD);all_goals (intro h;try exact xD))|(apply ZG;(exact oD);all_goals (intro h;try exact xD))|refine WC.skip ?_|refine WC.block ?_))
 all_goals try (exfalso;omega)
 (refine WC.loopU (X:=Nat) (fun k=>[(3,dI (k:Int)),(2,dA),(15,dA),(16,dA),(17,dA),(18,dA),(19,dA),(20,dA),(21,dA),(22,dA),(23,dA),(24,dA),(25,dA),(26,dA),(27,dA),(28,dA),(29,dA),(30,dA),(31,dA),(32,dA),(33,dA),(34,dA),(35,dA),(36,dA),(37,dA),(38,dA),(39,dA),(40,dA),(41,dA),(42,dA),(43,dA),(44,dA),(45,dA),(46,dA),(47,dA),(48,dA),(49,dA),(50,dA),(51,dA),(52,dA),(53,dA),(54,dA),(55,dA),(56,dA),(57,dA),(58,dA),(59,dA)]) (fun k=>[]) (fun k=>vs.length-k) (fun k=>k≤vs.length/\ZE8 (ZDT vs k) (vs.drop k) (A.drop k)=o) 0 ?start ?frame0 ?objs0 ?round)
 case start=>exact ⟨Nat.zero_le _,ho⟩
 case frame0=>((try dsimp only [ZK,z0,z1]);repeat (first|exact LeF.nil|refine ZD (k:=?_)))
 case objs0=>rfl
 case round =>
  rintro k ⟨g1,g2⟩
  dsimp only [ZK,z0,z1]
  by_cases hk:k<vs.length
  ·have hkI:(k:Int)<(vs.length:Int):=by omega
   have hkA:k<A.length:=by omega
   rw [ZF1 hk hkA] at g2
   have c1:=ZQe vs[k]
   by_cases hr:ZDI vs[k]=false
   ·rw [if_pos hr] at g2;subst g2
    rw [hr] at c1
    ((repeat' (first|((first|apply WL.opN|apply WD.opN);exact yF;dsimp only [ZB,z0,z1])|refine WL.nil ?_|refine ZA fun Kx hK=>?_|(refine hK _ _ ?_;clear hK)|refine WC.region ?_|((first|apply ZF|apply WD.op);(focus (first|exact wN|(apply SYG.yes;(exact wY);((first|(apply SY.call (c1) Tryz.call41;(exact aD))|(refine ZP ZAG (OpD.t rfl) Zp rfl rfl)|((first|apply SY.move|apply SY.assign|apply SY.lss|apply SY.gtr|apply SY.geq|apply SY.neq|apply SY.not) <;> (exact oD))|(apply SY.len;(exact oD);(exact nD);(exact uD))|(apply Zo;(exact eD);(exact oD);(exact oD);exact kD)|fail);all_goals infer_instance))));dsimp only [ZB,z0,z1])|(apply ZC;(exact oD);all_goals (intro h;try exact xD))|(apply ZO;(exact oD);all_goals (intro h;try exact xD))|refine WC.skip ?_|refine WC.ret ?_|refine WC.block ?_|refine ThenD.r ?_|refine InBlockD.r ?_));all_goals (first|((repeat clear hK);(repeat clear Kx))))
    all_goals try (exfalso;first|contradiction|omega)
    (refine ⟨trivial,_,rfl,?_⟩;exact fD)
   ·rw [if_neg hr] at g2
    rw [show ZDI vs[k]=true by simpa using hr] at c1
    by_cases hk0:k=0
    ·have hb:¬ ZQ7 (ZDT vs k) vs[k]:=by unfold ZDT;rw [if_pos hk0];exact fun h=>h
     rw [if_neg hb] at g2
     have hkz:¬ (k:Int)>0:=by omega
     by_cases ha1:A[k]<1
     ·rw [if_pos (.inl ha1)] at g2;subst g2
      ((repeat' (first|((first|apply WL.opN|apply WD.opN);exact yF;dsimp only [ZB,z0,z1])|refine WL.nil ?_|refine WD.nil ?_|refine ZA fun Kx hK=>?_|(refine hK _ _ ?_;clear hK)|refine WC.region ?_|(apply WC.draw;kernel_rfl;kernel_rfl)|((first|apply ZF|apply WD.op);(focus (first|exact wN|(apply SYG.yes;(exact wY);((first|(apply SY.call (c1) Tryz.call41;(exact aD))|(refine ZP ZAG (OpD.t rfl) Zp rfl rfl)|(apply SY.load;exact ZDW;exact OpD.t rfl)|(refine SY.ix (R:=RI) (_gR:=inferInstance) elI (OpD.t rfl) (OpD.t rfl) hkA)|((first|apply SY.move|apply SY.assign|apply SY.lss|apply SY.gtr|apply SY.geq|apply SY.neq|apply SY.not) <;> (exact oD))|(apply SY.len;(exact oD);(exact nD);(exact uD))|(apply Zo;(exact eD);(exact oD);(exact oD);exact kD)|(apply Zh;(exact oD);(with_reducible rfl);(exact oD))|(apply Ze;(exact oD);(with_reducible rfl);(exact oD))|fail);all_goals infer_instance))));dsimp only [ZB,z0,z1])|((first|refine ZN rfl rfl rfl (fun h=>?_) (fun h=>?_)|refine ZM rfl rfl rfl (fun h=>?_) (fun h=>?_)|refine ZL rfl rfl rfl (fun h=>?_) (fun h=>?_)|refine Za rfl rfl rfl (fun h=>?_) (fun h=>?_)|refine ZZ rfl rfl rfl (fun h=>?_) (fun h=>?_)|refine ZW rfl rfl rfl (fun h=>?_) (fun h=>?_)) <;> (first|(exfalso;first|omega|contradiction)|(dsimp only [z0,z1])))|(apply Z1;(exact oD);(with_reducible rfl))|(apply ZY;(exact oD);(with_reducible rfl))|(apply ZC;(exact oD);all_goals (intro h;try exact xD))|(apply ZO;(exact oD);all_goals (intro h;try exact xD))|refine WC.skip ?_|refine WC.ret ?_|refine WC.block ?_|refine ThenD.r ?_|refine InBlockD.r ?_));all_goals (first|((repeat clear hK);(repeat clear Kx))))
      all_goals try (exfalso;first|contradiction|omega)
      (refine ⟨trivial,_,rfl,?_⟩;exact fD)
     ·by_cases ha2:256≤A[k]
      ·rw [if_pos (.inr ha2)] at g2;subst g2
       ((repeat' (first|((first|apply WL.opN|apply WD.opN);exact yF;dsimp only [ZB,z0,z1])|refine WL.nil ?_|refine WD.nil ?_|refine ZA fun Kx hK=>?_|(refine hK _ _ ?_;clear hK)|refine WC.region ?_|(apply WC.draw;kernel_rfl;kernel_rfl)|((first|apply ZF|apply WD.op);(focus (first|exact wN|(apply SYG.yes;(exact wY);((first|(apply SY.call (c1) Tryz.call41;(exact aD))|(refine ZP ZAG (OpD.t rfl) Zp rfl rfl)|(apply SY.load;exact ZDW;exact OpD.t rfl)|(refine SY.ix (R:=RI) (_gR:=inferInstance) elI (OpD.t rfl) (OpD.t rfl) hkA)|((first|apply SY.move|apply SY.assign|apply SY.lss|apply SY.gtr|apply SY.geq|apply SY.neq|apply SY.not) <;> (exact oD))|(apply SY.load;(exact tD);(exact oD))|(apply SY.len;(exact oD);(exact nD);(exact uD))|(apply Zo;(exact eD);(exact oD);(exact oD);exact kD)|(apply Ze;(exact oD);(with_reducible rfl);(exact oD))|fail);all_goals infer_instance))));dsimp only [ZB,z0,z1])|((first|refine ZN rfl rfl rfl (fun h=>?_) (fun h=>?_)|refine ZM rfl rfl rfl (fun h=>?_) (fun h=>?_)|refine ZL rfl rfl rfl (fun h=>?_) (fun h=>?_)|refine Za rfl rfl rfl (fun h=>?_) (fun h=>?_)|refine ZZ rfl rfl rfl (fun h=>?_) (fun h=>?_)|refine ZW rfl rfl rfl (fun h=>?_) (fun h=>?_)) <;> (first|(exfalso;first|omega|contradiction)|(dsimp only [z0,z1])))|(apply ZY;(exact oD);(with_reducible rfl))|(apply ZC;(exact oD);all_goals (intro h;try exact xD))|(apply ZO;(exact oD);all_goals (intro h;try exact xD))|refine WC.skip ?_|refine WC.ret ?_|refine WC.block ?_|refine ThenD.r ?_|refine InBlockD.r ?_));all_goals (first|((repeat clear hK);(repeat clear Kx))))
       all_goals try (exfalso;first|contradiction|omega)
       (refine ⟨trivial,_,rfl,?_⟩;exact fD)
      ·rw [if_neg (by omega)] at g2
       ((repeat' (first|((first|apply WL.opN|apply WD.opN);exact yF;dsimp only [ZB,z0,z1])|refine WL.nil ?_|refine WD.nil ?_|refine ZA fun Kx hK=>?_|(refine hK _ _ ?_;clear hK)|refine WC.region ?_|(apply WC.draw;kernel_rfl;kernel_rfl)|((first|apply ZF|apply WD.op);(focus (first|exact wN|(apply SYG.yes;(exact wY);((first|(apply SY.call (c1) Tryz.call41;(exact aD))|(refine ZP ZAG (OpD.t rfl) Zp rfl rfl)|(apply SY.load;exact ZDW;exact OpD.t rfl)|(refine SY.ix (R:=RI) (_gR:=inferInstance) elI (OpD.t rfl) (OpD.t rfl) hkA)|((first|apply SY.move|apply SY.assign|apply SY.lss|apply SY.gtr|apply SY.geq|apply SY.neq|apply SY.not) <;> (exact oD))|((first|apply SY.add|apply SY.sub) <;> first|exact oD|omega)|(apply SY.load;(exact tD);(exact oD))|(apply SY.len;(exact oD);(exact nD);(exact uD))|(apply Zo;(exact eD);(exact oD);(exact oD);exact kD)|(apply Ze;(exact oD);(with_reducible rfl);(exact oD))|fail);all_goals infer_instance))));dsimp only [ZB,z0,z1])|((first|refine ZN rfl rfl rfl (fun h=>?_) (fun h=>?_)|refine ZM rfl rfl rfl (fun h=>?_) (fun h=>?_)|refine ZL rfl rfl rfl (fun h=>?_) (fun h=>?_)|refine Za rfl rfl rfl (fun h=>?_) (fun h=>?_)|refine ZZ rfl rfl rfl (fun h=>?_) (fun h=>?_)|refine ZW rfl rfl rfl (fun h=>?_) (fun h=>?_)) <;> (first|(exfalso;first|omega|contradiction)|(dsimp only [z0,z1])))|(apply ZY;(exact oD);(with_reducible rfl))|(apply ZC;(exact oD);all_goals (intro h;try exact xD))|(apply ZO;(exact oD);all_goals (intro h;try exact xD))|refine WC.skip ?_|refine WC.block ?_|refine ThenD.n ?_));all_goals (first|((repeat clear hK);(repeat clear Kx))))
       all_goals try (exfalso;first|contradiction|omega)
       (refine ⟨k+1,?_,by first|omega|(simp only;omega),rfl,?_⟩;rotate_left;((try dsimp only [ZK,z0,z1]);repeat (first|exact LeF.nil|refine ZD (k:=?_)));(try dsimp only))
       exact ⟨by omega,g2⟩
    ·have hk1:k-1<vs.length:=by omega
     have hkz:(k:Int)>0:=by omega
     have hp:ZDT vs k=some vs[k-1]:=by unfold ZDT;rw [if_neg hk0,List.getElem?_eq_getElem hk1]
     have c2:=ZJs vs[k-1] vs[k]
     by_cases hb:0≤ZAK vs[k-1] vs[k]
     ·rw [if_pos (by rw [hp];exact hb)] at g2;subst g2
      ((repeat' (first|((first|apply WL.opN|apply WD.opN);exact yF;dsimp only [ZB,z0,z1])|refine WL.nil ?_|refine WD.nil ?_|refine ZA fun Kx hK=>?_|(refine hK _ _ ?_;clear hK)|refine WC.region ?_|(apply WC.draw;kernel_rfl;kernel_rfl)|((first|apply ZF|apply WD.op);(focus (first|exact wN|(apply SYG.yes;(exact wY);((first|(apply SY.call (c1) Tryz.call41;(exact aD))|(apply SY.call (c2) Tryz.call42;(exact aD))|(refine ZP ZAG (OpD.t rfl) Zp rfl rfl)|(refine Zo (R:=RV) (_gR:=inferInstance) (k:=k) elV (OpD.t rfl) (OpD.t rfl) hk)|(refine Zo (R:=RV) (_gR:=inferInstance) (k:=k-1) elV (OpD.t rfl) (OpD.tle rfl (ZCk (by omega))) hk1)|((first|apply SY.move|apply SY.assign|apply SY.lss|apply SY.gtr|apply SY.geq|apply SY.neq|apply SY.not) <;> (exact oD))|((first|apply SY.add|apply SY.sub) <;> first|exact oD|omega)|(apply SY.load;(exact tD);(exact oD))|(apply SY.len;(exact oD);(exact nD);(exact uD))|(apply Zh;(exact oD);(with_reducible rfl);(exact oD))|fail);all_goals infer_instance))));dsimp only [ZB,z0,z1])|((first|refine ZN rfl rfl rfl (fun h=>?_) (fun h=>?_)|refine ZM rfl rfl rfl (fun h=>?_) (fun h=>?_)|refine ZL rfl rfl rfl (fun h=>?_) (fun h=>?_)|refine Za rfl rfl rfl (fun h=>?_) (fun h=>?_)|refine ZZ rfl rfl rfl (fun h=>?_) (fun h=>?_)|refine ZW rfl rfl rfl (fun h=>?_) (fun h=>?_)) <;> (first|(exfalso;first|omega|contradiction)|(dsimp only [z0,z1])))|(apply ZC;(exact oD);all_goals (intro h;try exact xD))|(apply ZO;(exact oD);all_goals (intro h;try exact xD))|refine WC.skip ?_|refine WC.ret ?_|refine WC.block ?_|refine ThenD.r ?_|refine InBlockD.r ?_));all_goals (first|((repeat clear hK);(repeat clear Kx))))
      all_goals try (exfalso;first|contradiction|omega)
      (refine ⟨trivial,_,rfl,?_⟩;exact fD)
     ·rw [if_neg (by rw [hp];exact hb)] at g2
      by_cases ha:A[k]<1\/256≤A[k]
      ·rw [if_pos ha] at g2;subst g2
       by_cases ha1:A[k]<1
       ·((repeat' (first|((first|apply WL.opN|apply WD.opN);exact yF;dsimp only [ZB,z0,z1])|refine WL.nil ?_|refine WD.nil ?_|refine ZA fun Kx hK=>?_|(refine hK _ _ ?_;clear hK)|refine WC.region ?_|(apply WC.draw;kernel_rfl;kernel_rfl)|((first|apply ZF|apply WD.op);(focus (first|exact wN|(apply SYG.yes;(exact wY);((first|(apply SY.call (c1) Tryz.call41;(exact aD))|(apply SY.call (c2) Tryz.call42;(exact aD))|(refine ZP ZAG (OpD.t rfl) Zp rfl rfl)|(apply SY.load;exact ZDW;exact OpD.t rfl)|(refine Zo (R:=RV) (_gR:=inferInstance) (k:=k) elV (OpD.t rfl) (OpD.t rfl) hk)|(refine Zo (R:=RV) (_gR:=inferInstance) (k:=k-1) elV (OpD.t rfl) (OpD.tle rfl (ZCk (by omega))) hk1)|(refine SY.ix (R:=RI) (_gR:=inferInstance) elI (OpD.t rfl) (OpD.t rfl) hkA)|((first|apply SY.move|apply SY.assign|apply SY.lss|apply SY.gtr|apply SY.geq|apply SY.neq|apply SY.not) <;> (exact oD))|((first|apply SY.add|apply SY.sub) <;> first|exact oD|omega)|(apply SY.load;(exact tD);(exact oD))|(apply SY.len;(exact oD);(exact nD);(exact uD))|(apply Zh;(exact oD);(with_reducible rfl);(exact oD))|fail);all_goals infer_instance))));dsimp only [ZB,z0,z1])|((first|refine ZN rfl rfl rfl (fun h=>?_) (fun h=>?_)|refine ZM rfl rfl rfl (fun h=>?_) (fun h=>?_)|refine ZL rfl rfl rfl (fun h=>?_) (fun h=>?_)|refine Za rfl rfl rfl (fun h=>?_) (fun h=>?_)|refine ZZ rfl rfl rfl (fun h=>?_) (fun h=>?_)|refine ZW rfl rfl rfl (fun h=>?_) (fun h=>?_)) <;> (first|(exfalso;first|omega|contradiction)|(dsimp only [z0,z1])))|(apply Z1;(exact oD);(with_reducible rfl))|(apply ZC;(exact oD);all_goals (intro h;try exact xD))|(apply ZO;(exact oD);all_goals (intro h;try exact xD))|refine WC.skip ?_|refine WC.ret ?_|refine WC.block ?_|refine ThenD.r ?_|refine InBlockD.r ?_));all_goals (first|((repeat clear hK);(repeat clear Kx))))
        all_goals try (exfalso;first|contradiction|omega)
        (refine ⟨trivial,_,rfl,?_⟩;exact fD)
       ·have ha2:256≤A[k]:=by omega
        ((repeat' (first|((first|apply WL.opN|apply WD.opN);exact yF;dsimp only [ZB,z0,z1])|refine WL.nil ?_|refine WD.nil ?_|refine ZA fun Kx hK=>?_|(refine hK _ _ ?_;clear hK)|refine WC.region ?_|(apply WC.draw;kernel_rfl;kernel_rfl)|((first|apply ZF|apply WD.op);(focus (first|exact wN|(apply SYG.yes;(exact wY);((first|(apply SY.call (c1) Tryz.call41;(exact aD))|(apply SY.call (c2) Tryz.call42;(exact aD))|(refine ZP ZAG (OpD.t rfl) Zp rfl rfl)|(apply SY.load;exact ZDW;exact OpD.t rfl)|(refine Zo (R:=RV) (_gR:=inferInstance) (k:=k) elV (OpD.t rfl) (OpD.t rfl) hk)|(refine Zo (R:=RV) (_gR:=inferInstance) (k:=k-1) elV (OpD.t rfl) (OpD.tle rfl (ZCk (by omega))) hk1)|(refine SY.ix (R:=RI) (_gR:=inferInstance) elI (OpD.t rfl) (OpD.t rfl) hkA)|((first|apply SY.move|apply SY.assign|apply SY.lss|apply SY.gtr|apply SY.geq|apply SY.neq|apply SY.not) <;> (exact oD))|((first|apply SY.add|apply SY.sub) <;> first|exact oD|omega)|(apply SY.load;(exact tD);(exact oD))|(apply SY.len;(exact oD);(exact nD);(exact uD))|(apply Zh;(exact oD);(with_reducible rfl);(exact oD))|(apply Ze;(exact oD);(with_reducible rfl);(exact oD))|fail);all_goals infer_instance))));dsimp only [ZB,z0,z1])|((first|refine ZN rfl rfl rfl (fun h=>?_) (fun h=>?_)|refine ZM rfl rfl rfl (fun h=>?_) (fun h=>?_)|refine ZL rfl rfl rfl (fun h=>?_) (fun h=>?_)|refine Za rfl rfl rfl (fun h=>?_) (fun h=>?_)|refine ZZ rfl rfl rfl (fun h=>?_) (fun h=>?_)|refine ZW rfl rfl rfl (fun h=>?_) (fun h=>?_)) <;> (first|(exfalso;first|omega|contradiction)|(dsimp only [z0,z1])))|(apply ZC;(exact oD);all_goals (intro h;try exact xD))|(apply ZO;(exact oD);all_goals (intro h;try exact xD))|refine WC.skip ?_|refine WC.ret ?_|refine WC.block ?_|refine ThenD.r ?_|refine InBlockD.r ?_));all_goals (first|((repeat clear hK);(repeat clear Kx))))
        all_goals try (exfalso;first|contradiction|omega)
        (refine ⟨trivial,_,rfl,?_⟩;exact fD)
      ·rw [if_neg ha] at g2
       ((repeat' (first|((first|apply WL.opN|apply WD.opN);exact yF;dsimp only [ZB,z0,z1])|refine WL.nil ?_|refine WD.nil ?_|refine ZA fun Kx hK=>?_|(refine hK _ _ ?_;clear hK)|refine WC.region ?_|(apply WC.draw;kernel_rfl;kernel_rfl)|((first|apply ZF|apply WD.op);(focus (first|exact wN|(apply SYG.yes;(exact wY);((first|(apply SY.call (c1) Tryz.call41;(exact aD))|(apply SY.call (c2) Tryz.call42;(exact aD))|(refine ZP ZAG (OpD.t rfl) Zp rfl rfl)|(apply SY.load;exact ZDW;exact OpD.t rfl)|(refine Zo (R:=RV) (_gR:=inferInstance) (k:=k) elV (OpD.t rfl) (OpD.t rfl) hk)|(refine Zo (R:=RV) (_gR:=inferInstance) (k:=k-1) elV (OpD.t rfl) (OpD.tle rfl (ZCk (by omega))) hk1)|(refine SY.ix (R:=RI) (_gR:=inferInstance) elI (OpD.t rfl) (OpD.t rfl) hkA)|((first|apply SY.move|apply SY.assign|apply SY.lss|apply SY.gtr|apply SY.geq|apply SY.neq|apply SY.not) <;> (exact oD))|((first|apply SY.add|apply SY.sub) <;> first|exact oD|omega)|(apply SY.load;(exact tD);(exact oD))|(apply SY.len;(exact oD);(exact nD);(exact uD))|(apply Zh;(exact oD);(with_reducible rfl);(exact oD))|(apply Ze;(exact oD);(with_reducible rfl);(exact oD))|fail);all_goals infer_instance))));dsimp only [ZB,z0,z1])|((first|refine ZN rfl rfl rfl (fun h=>?_) (fun h=>?_)|refine ZM rfl rfl rfl (fun h=>?_) (fun h=>?_)|refine ZL rfl rfl rfl (fun h=>?_) (fun h=>?_)|refine Za rfl rfl rfl (fun h=>?_) (fun h=>?_)|refine ZZ rfl rfl rfl (fun h=>?_) (fun h=>?_)|refine ZW rfl rfl rfl (fun h=>?_) (fun h=>?_)) <;> (first|(exfalso;first|omega|contradiction)|(dsimp only [z0,z1])))|(apply ZC;(exact oD);all_goals (intro h;try exact xD))|(apply ZO;(exact oD);all_goals (intro h;try exact xD))|refine WC.skip ?_|refine WC.block ?_|refine ThenD.n ?_));all_goals (first|((repeat clear hK);(repeat clear Kx))))
       all_goals try (exfalso;first|contradiction|omega)
       (refine ⟨k+1,?_,by first|omega|(simp only;omega),rfl,?_⟩;rotate_left;((try dsimp only [ZK,z0,z1]);repeat (first|exact LeF.nil|refine ZD (k:=?_)));(try dsimp only))
       exact ⟨by omega,g2⟩
  ·have hkI:¬ (k:Int)<(vs.length:Int):=by omega
   rw [List.drop_of_length_le (by omega)] at g2
   have h0:o=0:=by
    rw [<- g2]
    cases A.drop k <;> rfl
   subst h0
   ((repeat' (first|((first|apply WL.opN|apply WD.opN);exact yF;dsimp only [ZB,z0,z1])|refine WL.nil ?_|refine ZA fun Kx hK=>?_|(refine hK _ _ ?_;clear hK)|(refine Kont.skip ?_;clear hK)|refine WC.region ?_|((first|apply ZF|apply WD.op);(focus (first|exact wN|(apply SYG.yes;(exact wY);((first|(refine ZP ZAG (OpD.t rfl) Zp rfl rfl)|((first|apply SY.move|apply SY.assign|apply SY.lss|apply SY.gtr|apply SY.geq|apply SY.neq|apply SY.not) <;> (exact oD))|(apply SY.len;(exact oD);(exact nD);(exact uD))|fail);all_goals infer_instance))));dsimp only [ZB,z0,z1])|(apply ZC;(exact oD);all_goals (intro h;try exact xD))|refine WC.ret ?_|refine WC.exit ?_));all_goals (first|((repeat clear hK);(repeat clear Kx))))
   all_goals try (exfalso;first|contradiction|omega)
   (refine ⟨trivial,_,rfl,?_⟩;exact fD)
end
section
open Go.RowKit

theorem ZF2:∀ {p:Option Vx} {vs:List Vx} {A:List Int},A.length=vs.length->ZE8 p vs A=0->Asc vs/\(∀ u∈p,∀ v∈vs,ZAK u v<0)/\(∀ v∈vs,ZDI v=true)/\∀ a∈A,1≤a/\a<256
 | _,[],[],_,_=>⟨by simp [Asc],by simp,by simp,by simp⟩
 | _,[],_::_,h,_=>by simp at h
 | _,_::_,[],h,_=>by simp at h
 | p,v::vs,a::A,h,h0=>by
  unfold ZE8 at h0
  by_cases h1:ZDI v=false
  ·rw [if_pos h1] at h0;cases h0
  rw [if_neg h1] at h0
  by_cases h2:ZQ7 p v
  ·rw [if_pos h2] at h0;cases h0
  rw [if_neg h2] at h0
  by_cases h3:a<1\/256≤a
  ·rw [if_pos h3] at h0;cases h0
  rw [if_neg h3] at h0
  obtain ⟨k1,k2,k3,k4⟩:=ZF2 (by simpa using h) h0
  have hv:=k2 v rfl
  refine ⟨List.pairwise_cons.2 ⟨hv,k1⟩,fun u hu w hw=>?_,fun w hw=>?_,fun b hb=>?_⟩
  ·have huv:ZAK u v<0:=by
    cases p with
    | none=>cases hu
    | some u' =>
     cases hu
     have:¬ 0≤ZAK u v:=h2
     omega
   rcases List.mem_cons.1 hw with rfl|hw
   ·exact huv
   ·exact ZAh huv (hv w hw)
  ·rcases List.mem_cons.1 hw with rfl|hw
   ·simpa using h1
   ·exact k3 w hw
  ·rcases List.mem_cons.1 hb with rfl|hb
   ·omega
   ·exact k4 b hb
theorem ZBI {vs:List Vx} {A:List Int} (h:ZAa vs A=0):vs.length≤4096/\A.length=vs.length/\Asc vs/\(∀ v∈vs,ZDI v=true)/\∀ a∈A,1≤a/\a<256:=by
 unfold ZAa at h
 by_cases h1:4096<vs.length
 ·rw [if_pos h1] at h;cases h
 rw [if_neg h1] at h
 by_cases h2:A.length≠vs.length
 ·rw [if_pos h2] at h;cases h
 rw [if_neg h2] at h
 have hA:A.length=vs.length:=Classical.byContradiction h2
 obtain ⟨k1,_,k3,k4⟩:=ZF2 hA h
 exact ⟨by omega,hA,k1,k3,k4⟩
def ZLb (l:Cx) (f:Vx->Int):Cx:=l.filter fun s=>decide (orL f s=((2 ^ s.length-1:Nat):Int))
def ZFq (l:Cx) (vs:List Vx) (A:List Int):Cx × Int :=
 if ZAy l≠0 then ([],ZAy l) else if ZAa vs A≠0 then ([],ZAa vs A) else if ZI7 l (Zl vs A)=false then ([],6) else if ZLc A=false then ([],3) else (ZLb l (Zl vs A),0)
theorem ZFW {l:Cx} {f:Vx->Int} {k:Nat} (h:k<l.length):ZLb (l.take (k+1)) f=ZLb (l.take k) f++(if orL f l[k]=((2 ^ l[k].length-1:Nat):Int) then [l[k]] else []):=by
 unfold ZLb
 rw [Zc h,List.filter_append]
 congr 1
 by_cases hp:orL f l[k]=((2 ^ l[k].length-1:Nat):Int)
 ·rw [if_pos hp,List.filter_cons_of_pos (by simpa using hp)];rfl
 ·rw [if_neg hp,List.filter_cons_of_neg (by simpa using hp)];rfl
set_option maxHeartbeats 8000000 in
theorem ZFV (l:Cx) (vs:List Vx) (A:List Int):Fn Tryz.prog 15 [dS Cpx l,dS Lab (vs,A)] (dT [dS Zv (ZFq l vs A).1,dI (ZFq l vs A).2]):=by
 have c1:=ZB0 l
 have c2:=ZE9 vs A
 (refine Zq Tryz.func15 rfl rfl ?_;simp only [Tryz.ntmps15,List.length_cons,List.length_nil,Nat.reduceAdd,Nat.reduceSub,List.replicate_succ,List.replicate_zero,List.cons_append,List.nil_append])
 (first|refine ZQ (t:=0) rfl ZEX fun hl0=>?_|refine ZQ (t:=0) rfl ZD7 fun hl0=>?_|refine ZQ (t:=0) rfl ZLZ fun hl0=>?_);simp only [maxLen] at hl0
 by_cases h1:ZAy l≠0
 ·have e:ZFq l vs A=([],ZAy l):=by unfold ZFq;rw [if_pos h1]
  rw [e]
  ((repeat' (first|((first|apply WL.opN|apply WD.opN);exact yF;dsimp only [ZB,z0,z1])|refine WL.nil ?_|refine ZA fun Kx hK=>?_|(refine hK _ _ ?_;clear hK)|refine WC.region ?_|((first|apply WL.opN|apply WD.opN);(focus ((first|(apply SY.call (c1) Tryz.call43;(exact aD))|((first|apply SY.move|apply SY.assign|apply SY.lss|apply SY.eql|apply SY.neq|apply SY.not) <;> (exact oD))|(apply SY.box;(exact oD);(exact hD))|fail);all_goals infer_instance));dsimp only [ZB,z0,z1])|(apply ZG;(exact oD);all_goals (intro h;try exact xD))|refine WC.ret ?_|refine ThenD.r ?_));all_goals (first|((repeat clear hK);(repeat clear Kx))))
  all_goals try (exfalso;first|contradiction|omega)
  (refine ⟨trivial,⟨_,rfl,?_⟩,_,rfl,?_⟩ <;> exact fD)
 by_cases h2:ZAa vs A≠0
 ·have e:ZFq l vs A=([],ZAa vs A):=by unfold ZFq;rw [if_neg h1,if_pos h2]
  have h1':ZAy l=0:=Classical.byContradiction h1
  rw [e]
  rw [h1'] at c1
  ((repeat' (first|((first|apply WL.opN|apply WD.opN);exact yF;dsimp only [ZB,z0,z1])|refine WL.nil ?_|refine ZA fun Kx hK=>?_|(refine hK _ _ ?_;clear hK)|refine WC.region ?_|((first|apply WL.opN|apply WD.opN);(focus ((first|(apply SY.call (c1) Tryz.call43;(exact aD))|(apply SY.call (c2) Tryz.call13;(exact aD))|(apply SY.load;exact ZBq;exact OpD.t rfl)|((first|apply SY.move|apply SY.assign|apply SY.lss|apply SY.eql|apply SY.neq|apply SY.not) <;> (exact oD))|(apply SY.box;(exact oD);(exact hD))|fail);all_goals infer_instance));dsimp only [ZB,z0,z1])|(apply ZG;(exact oD);all_goals (intro h;try exact xD))|refine WC.skip ?_|refine WC.ret ?_|refine ThenD.r ?_));all_goals (first|((repeat clear hK);(repeat clear Kx))))
  all_goals try (exfalso;first|contradiction|omega)
  (refine ⟨trivial,⟨_,rfl,?_⟩,_,rfl,?_⟩ <;> exact fD)
 have h1':ZAy l=0:=Classical.byContradiction h1
 have h2':ZAa vs A=0:=Classical.byContradiction h2
 rw [h1'] at c1
 rw [h2'] at c2
 obtain ⟨g1,g2,g3,g4,g5⟩:=ZBI h2'
 have c3:=ZJt l vs A g3 g2 (by omega)
 have c4:=ZKQ vs A fun m hm=>by have:=g5 m hm;omega
 cases h3:ZI7 l (Zl vs A) with
 | false =>
  have e:ZFq l vs A=([],6):=by unfold ZFq;rw [if_neg h1,if_neg h2,if_pos h3]
  rw [e]
  rw [h3] at c3
  ((repeat' (first|((first|apply WL.opN|apply WD.opN);exact yF;dsimp only [ZB,z0,z1])|refine WL.nil ?_|refine ZA fun Kx hK=>?_|(refine hK _ _ ?_;clear hK)|refine WC.region ?_|((first|apply WL.opN|apply WD.opN);(focus ((first|(apply SY.call (c1) Tryz.call43;(exact aD))|(apply SY.call (c2) Tryz.call13;(exact aD))|(apply SY.call (c3) Tryz.call44;(exact aD))|(apply SY.load;exact ZBq;exact OpD.t rfl)|((first|apply SY.move|apply SY.assign|apply SY.lss|apply SY.eql|apply SY.neq|apply SY.not) <;> (exact oD))|(apply SY.box;(exact oD);(exact hD))|fail);all_goals infer_instance));dsimp only [ZB,z0,z1])|(apply ZG;(exact oD);all_goals (intro h;try exact xD))|(apply ZO;(exact oD);all_goals (intro h;try exact xD))|refine WC.skip ?_|refine WC.ret ?_|refine WC.block ?_|refine ThenD.r ?_|refine InBlockD.r ?_));all_goals (first|((repeat clear hK);(repeat clear Kx))))
  all_goals try (exfalso;first|contradiction|omega)
  (refine ⟨trivial,⟨_,rfl,?_⟩,_,rfl,?_⟩ <;> exact fD)
 | true =>
  rw [h3] at c3
  cases h4:ZLc A with
  | false =>
   have e:ZFq l vs A=([],3):=by unfold ZFq;rw [if_neg h1,if_neg h2,if_neg (by simp [h3]),if_pos h4]
   rw [e]
   rw [h4] at c4
   ((repeat' (first|((first|apply WL.opN|apply WD.opN);exact yF;dsimp only [ZB,z0,z1])|refine WL.nil ?_|refine ZA fun Kx hK=>?_|(refine hK _ _ ?_;clear hK)|refine WC.region ?_|((first|apply WL.opN|apply WD.opN);(focus ((first|(apply SY.call (c1) Tryz.call43;(exact aD))|(apply SY.call (c2) Tryz.call13;(exact aD))|(apply SY.call (c3) Tryz.call44;(exact aD))|(apply SY.call (c4) Tryz.call35;(exact aD))|(apply SY.load;exact ZBq;exact OpD.t rfl)|((first|apply SY.move|apply SY.assign|apply SY.lss|apply SY.eql|apply SY.neq|apply SY.not) <;> (exact oD))|(apply SY.box;(exact oD);(exact hD))|fail);all_goals infer_instance));dsimp only [ZB,z0,z1])|(apply ZG;(exact oD);all_goals (intro h;try exact xD))|(apply ZO;(exact oD);all_goals (intro h;try exact xD))|refine WC.skip ?_|refine WC.ret ?_|refine WC.block ?_|refine ThenD.r ?_|refine InBlockD.r ?_));all_goals (first|((repeat clear hK);(repeat clear Kx))))
   all_goals try (exfalso;first|contradiction|omega)
   (refine ⟨trivial,⟨_,rfl,?_⟩,_,rfl,?_⟩ <;> exact fD)
  | true =>
   have e:ZFq l vs A=(ZLb l (Zl vs A),0):=by unfold ZFq;rw [if_neg h1,if_neg h2,if_neg (by simp [h3]),if_neg (by simp [h4])]
   rw [e]
   rw [h4] at c4
   have hG:=ZAT.1 h1'
   have hl4:l.length≤4096:=hG.1
   (repeat' (first|((first|apply WL.opN|apply WD.opN);exact yF;dsimp only [ZB,z0,z1])|refine WL.nil ?_|refine ZA fun Kx hK=>?_|(refine hK _ _ ?_;clear hK)|refine WC.region ?_|((first|apply WL.opN|apply WD.opN);(focus ((first|(apply SY.call (c1) Tryz.call43;(exact aD))|(apply SY.call (c2) Tryz.call13;(exact aD))|(apply SY.call (c3) Tryz.call44;(exact aD))|(apply SY.call (c4) Tryz.call35;(exact aD))|(apply SY.load;exact ZBq;exact OpD.t rfl)|((first|apply SY.move|apply SY.assign|apply SY.lss|apply SY.eql|apply SY.neq|apply SY.not) <;> (exact oD))|(apply SY.len;(exact oD);(exact nD);(exact uD))|(apply ZBy ZI8;exact OpD.t rfl)|(apply SY.box;(exact oD);(exact hD))|fail);all_goals infer_instance));dsimp only [ZB,z0,z1])|(apply ZG;(exact oD);all_goals (intro h;try exact xD))|(apply ZO;(exact oD);all_goals (intro h;try exact xD))|refine WC.skip ?_|refine WC.block ?_))
   all_goals try (exfalso;first|contradiction|omega)
   refine ZAH 22 ZJ ?_
   (refine WC.loopU (X:=Nat × Value) (fun x=>[(8,dX x.2),(33,dI (x.1:Int)),(10,dA),(34,dA),(35,dA),(36,dA),(37,dA),(38,dA),(39,dA),(40,dA),(41,dA),(42,dA),(43,dA),(44,dA),(45,dA),(46,dA),(47,dA),(48,dA),(49,dA),(50,dA),(51,dA)]) (fun x=>[Zn x.2 22 ZJ (ZLb (l.take x.1) (Zl vs A))]) (fun x=>l.length-x.1) (fun x=>x.1≤l.length) (0,.slice none 0 0) ?start ?frame0 ?objs0 ?round)
   case start=>simp
   case frame0=>((try dsimp only [ZK,z0,z1]);repeat (first|exact LeF.nil|refine ZD (k:=?_)))
   case objs0=>rfl
   case round =>
    rintro ⟨k,u⟩ q1
    simp only at q1
    dsimp only [ZK,z0,z1]
    have hol:(ZLb (l.take k) (Zl vs A)).length≤1000000:=by
     unfold ZLb
     have:=List.length_filter_le (fun s:List Vx=>decide (orL (Zl vs A) s=((2 ^ s.length-1:Nat):Int))) (l.take k)
     rw [List.length_take] at this
     omega
    by_cases hk:k<l.length
    ·have h8:l[k].length≤8:=hG.short _ (List.getElem_mem hk)
     have hshl:=ZPS ⟨l[k].length,by omega⟩
     simp only at hshl
     have hpp:0<2 ^ l[k].length:=Nat.two_pow_pos _
     have hp9:2 ^ l[k].length≤2 ^ 8:=Nat.pow_le_pow_right (by decide) h8
     by_cases hrb:orL (Zl vs A) l[k]=((2 ^ l[k].length-1:Nat):Int)
     ·((repeat' (first|((first|apply WL.opN|apply WD.opN);exact yF;dsimp only [ZB,z0,z1])|refine WL.nil ?_|refine WD.nil ?_|refine ZA fun Kx hK=>?_|(refine hK _ _ ?_;clear hK)|refine WC.region ?_|(apply WC.draw;kernel_rfl;kernel_rfl)|((first|apply ZAp|apply Z6);(exact eD);exact OpD.t rfl;(exact oD);(intro _;exact hD);(exact (by simp));(exact (by simp));(first|exact ⟨by decide,by decide⟩|skip);decide;(exact lD);(intro _;dsimp only [ZB,z0,z1]);all_goals (try infer_instance))|((first|apply WL.opN|apply WD.opN);(focus ((first|(apply SY.load;exact ZBq;exact OpD.t rfl)|(apply SY.call (ZEk vs A g3 g2 (by omega)) Tryz.call46;(exact aD))|(apply SY.call (ZEI l[k] (Zl vs A)) Tryz.call45;(exact aD))|(exact ZLw hshl (by omega) OpD.i (OpD.t rfl))|(refine ZLz (c:=((2 ^ l[k].length-1:Nat):Int)) (by omega) (by omega) (OpD.t rfl) OpD.i)|(apply SY.call (ZGn l[k] (by omega)) Tryz.call47;(exact aD))|((first|apply SY.move|apply SY.assign|apply SY.lss|apply SY.eql|apply SY.neq|apply SY.not) <;> (exact oD))|((first|apply SY.add|apply SY.sub) <;> first|exact oD|omega)|(apply SY.len;(exact oD);(exact nD);(exact uD))|(apply SY.ix;(exact eD);(exact oD);(exact oD);exact kD)|fail);all_goals infer_instance));dsimp only [ZB,z0,z1])|(apply ZC;(exact oD);all_goals (intro h;try exact xD))|refine WC.skip ?_|refine WC.block ?_|refine ThenD.n ?_));all_goals (first|((repeat clear hK);(repeat clear Kx))))
      all_goals try (exfalso;first|contradiction|omega)
      (refine ⟨(k+1,_) , ?_,by first|omega|(simp only;omega),by ((try simp only);  (rw [ZFW hk,if_pos hrb])),?_⟩;rotate_left;((try dsimp only [ZK,z0,z1]);repeat (first|exact LeF.nil|refine ZD (k:=?_)));(try dsimp only))
      omega
     ·((repeat' (first|((first|apply WL.opN|apply WD.opN);exact yF;dsimp only [ZB,z0,z1])|refine WL.nil ?_|refine WD.nil ?_|refine ZA fun Kx hK=>?_|(refine hK _ _ ?_;clear hK)|refine WC.region ?_|(apply WC.draw;kernel_rfl;kernel_rfl)|((first|apply WL.opN|apply WD.opN);(focus ((first|(apply SY.load;exact ZBq;exact OpD.t rfl)|(apply SY.call (ZEk vs A g3 g2 (by omega)) Tryz.call46;(exact aD))|(apply SY.call (ZEI l[k] (Zl vs A)) Tryz.call45;(exact aD))|(exact ZLw hshl (by omega) OpD.i (OpD.t rfl))|(refine ZLz (c:=((2 ^ l[k].length-1:Nat):Int)) (by omega) (by omega) (OpD.t rfl) OpD.i)|((first|apply SY.move|apply SY.assign|apply SY.lss|apply SY.eql|apply SY.neq|apply SY.not) <;> (exact oD))|((first|apply SY.add|apply SY.sub) <;> first|exact oD|omega)|(apply SY.len;(exact oD);(exact nD);(exact uD))|(apply SY.ix;(exact eD);(exact oD);(exact oD);exact kD)|fail);all_goals infer_instance));dsimp only [ZB,z0,z1])|(apply ZC;(exact oD);all_goals (intro h;try exact xD))|refine WC.skip ?_|refine WC.block ?_|refine ThenD.n ?_));all_goals (first|((repeat clear hK);(repeat clear Kx))))
      all_goals try (exfalso;first|contradiction|omega)
      (refine ⟨(k+1,_) , ?_,by first|omega|(simp only;omega),by ((try simp only);  (rw [ZFW hk,if_neg hrb,List.append_nil])),?_⟩;rotate_left;((try dsimp only [ZK,z0,z1]);repeat (first|exact LeF.nil|refine ZD (k:=?_)));(try dsimp only))
      omega
    ·have hle:l.take k=l:=List.take_of_length_le (by omega)
     rw [hle]
     ((repeat' (first|((first|apply WL.opN|apply WD.opN);exact yF;dsimp only [ZB,z0,z1])|refine WL.nil ?_|refine ZA fun Kx hK=>?_|(refine hK _ _ ?_;clear hK)|(refine Kont.skip ?_;clear hK)|refine WC.region ?_|((first|apply WL.opN|apply WD.opN);(focus ((first|((first|apply SY.move|apply SY.assign|apply SY.lss|apply SY.eql|apply SY.neq|apply SY.not) <;> (exact oD))|fail);all_goals infer_instance));dsimp only [ZB,z0,z1])|(apply ZC;(exact oD);all_goals (intro h;try exact xD))|refine WC.ret ?_|refine WC.exit ?_));all_goals (first|((repeat clear hK);(repeat clear Kx))))
     all_goals try (exfalso;omega)
     (refine ⟨trivial,⟨_,rfl,?_⟩,_,rfl,?_⟩ <;> exact fD)
end
end Go.Proofs.YtofkoleingbbpaaGreatDoor
