/- Part 2: walks by contracts, and plain laws. -/
import Derived.Test.YtofkoleingbbpaaGreatDoorWa32
import Derived.Test.YtofkoleingbbpaaGreatDoorWf1
set_option linter.unusedVariables false
set_option linter.unusedSimpArgs false
set_option linter.unusedSectionVars false
set_option maxRecDepth 100000
set_option maxHeartbeats 4000000
namespace Go.Proofs.YtofkoleingbbpaaGreatDoor
section
open Go.RowKit

set_option maxHeartbeats 8000000 in
theorem ZET (vs:List Vx) (A:List Int):Fn Tryz.prog 14 [dS Lab (vs,A)] (dI (Z9 vs A)):=by
 obtain ⟨o,ho⟩:∃ o,Z9 vs A=o:=⟨_,rfl⟩
 rw [ho]
 unfold Z9 at ho
 (refine ZE Tryz.func14 rfl rfl ?_;simp only [Tryz.ntmps14,List.length_cons,List.length_nil,Nat.reduceAdd,Nat.reduceSub,List.replicate_succ,List.replicate_zero,List.cons_append,List.nil_append])
 by_cases h1:4096<vs.length
 ·rw [if_pos h1] at ho;subst ho
  ((repeat' (first|((first|apply WL.opN|apply WD.opN);exact yF;dsimp only [ZC,z0,z1])|refine WL.nil ?_|refine ZA fun Kx hK=>?_|(refine hK _ _ ?_;clear hK)|refine WC.region ?_|((first|apply ZF|apply WD.op);(focus (first|exact wN|(apply SYG.yes;(exact wY);((first|(refine ZP Zx (OpD.t rfl) Zh rfl rfl)|((first|apply SY.move|apply SY.assign|apply SY.lss|apply SY.gtr|apply SY.geq|apply SY.neq|apply SY.not) <;> (exact oD))|(apply SY.len;(exact oD);(exact nD);(exact uD))|(apply SY.box;(exact oD);(exact hD))|fail);all_goals infer_instance))));dsimp only [ZC,z0,z1])|(apply ZB;(exact oD);all_goals (intro h;try exact xD))|refine WC.ret ?_|refine ThenD.r ?_));all_goals (first|((repeat clear hK);(repeat clear Kx))))
  all_goals try (exfalso;omega)
  (refine ⟨trivial,_,rfl,?_⟩;exact fD)
 rw [if_neg h1] at ho
 by_cases h2:A.length≠vs.length
 ·rw [if_pos h2] at ho;subst ho
  ((repeat' (first|((first|apply WL.opN|apply WD.opN);exact yF;dsimp only [ZC,z0,z1])|refine WL.nil ?_|refine ZA fun Kx hK=>?_|(refine hK _ _ ?_;clear hK)|refine WC.region ?_|((first|apply ZF|apply WD.op);(focus (first|exact wN|(apply SYG.yes;(exact wY);((first|(refine ZP Zx (OpD.t rfl) Zh rfl rfl)|(apply SY.load;exact ZBv;exact OpD.t rfl)|((first|apply SY.move|apply SY.assign|apply SY.lss|apply SY.gtr|apply SY.geq|apply SY.neq|apply SY.not) <;> (exact oD))|(apply SY.len;(exact oD);(exact nD);(exact uD))|(apply SY.box;(exact oD);(exact hD))|fail);all_goals infer_instance))));dsimp only [ZC,z0,z1])|(apply ZB;(exact oD);all_goals (intro h;try exact xD))|(apply ZG;(exact oD);all_goals (intro h;try exact xD))|refine WC.skip ?_|refine WC.ret ?_|refine ThenD.r ?_));all_goals (first|((repeat clear hK);(repeat clear Kx))))
  all_goals try (exfalso;omega)
  (refine ⟨trivial,_,rfl,?_⟩;exact fD)
 rw [if_neg h2] at ho
 have hA:A.length=vs.length:=Classical.byContradiction h2
 (repeat' (first|((first|apply WL.opN|apply WD.opN);exact yF;dsimp only [ZC,z0,z1])|refine WL.nil ?_|refine ZA fun Kx hK=>?_|(refine hK _ _ ?_;clear hK)|refine WC.region ?_|((first|apply ZF|apply WD.op);(focus (first|exact wN|(apply SYG.yes;(exact wY);((first|(refine ZP Zx (OpD.t rfl) Zh rfl rfl)|(apply SY.load;exact ZBv;exact OpD.t rfl)|((first|apply SY.move|apply SY.assign|apply SY.lss|apply SY.gtr|apply SY.geq|apply SY.neq|apply SY.not) <;> (exact oD))|(apply SY.len;(exact oD);(exact nD);(exact uD))|(apply SY.box;(exact oD);(exact hD))|fail);all_goals infer_instance))));dsimp only [ZC,z0,z1])|(apply ZB;(exact oD);all_goals (intro h;try exact xD))|(apply ZG;(exact oD);all_goals (intro h;try exact xD))|refine WC.skip ?_|refine WC.block ?_))
 all_goals try (exfalso;omega)
 (refine WC.loopU (X:=Nat) (fun k=>[(3,dI (k:Int)),(2,dA),(15,dA),(16,dA),(17,dA),(18,dA),(19,dA),(20,dA),(21,dA),(22,dA),(23,dA),(24,dA),(25,dA),(26,dA),(27,dA),(28,dA),(29,dA),(30,dA),(31,dA),(32,dA),(33,dA),(34,dA),(35,dA),(36,dA),(37,dA),(38,dA),(39,dA),(40,dA),(41,dA),(42,dA),(43,dA),(44,dA),(45,dA),(46,dA),(47,dA),(48,dA),(49,dA),(50,dA),(51,dA),(52,dA),(53,dA),(54,dA),(55,dA),(56,dA),(57,dA),(58,dA),(59,dA)]) (fun k=>[]) (fun k=>vs.length-k) (fun k=>k≤vs.length/\ZEK (ZB3 vs k) (vs.drop k) (A.drop k)=o) 0 ?start ?frame0 ?objs0 ?round)
 case start=>exact ⟨Nat.zero_le _,ho⟩
 case frame0=>((try dsimp only [ZK,z0,z1]);repeat (first|exact LeF.nil|refine ZD (k:=?_)))
 case objs0=>rfl
 case round =>
  rintro k ⟨g1,g2⟩
  dsimp only [ZK,z0,z1]
  by_cases hk:k<vs.length
  ·have hkI:(k:Int)<(vs.length:Int):=by omega
   have hkA:k<A.length:=by omega
   rw [ZDr hk hkA] at g2
   have c1:=ZEe vs[k]
   by_cases hr:ZCL vs[k]=false
   ·rw [if_pos hr] at g2;subst g2
    rw [hr] at c1
    ((repeat' (first|((first|apply WL.opN|apply WD.opN);exact yF;dsimp only [ZC,z0,z1])|refine WL.nil ?_|refine ZA fun Kx hK=>?_|(refine hK _ _ ?_;clear hK)|refine WC.region ?_|((first|apply ZF|apply WD.op);(focus (first|exact wN|(apply SYG.yes;(exact wY);((first|(apply SY.call (c1) Tryz.call41;(exact aD))|(refine ZP Zx (OpD.t rfl) Zh rfl rfl)|((first|apply SY.move|apply SY.assign|apply SY.lss|apply SY.gtr|apply SY.geq|apply SY.neq|apply SY.not) <;> (exact oD))|(apply SY.len;(exact oD);(exact nD);(exact uD))|(apply Zc;(exact eD);(exact oD);(exact oD);exact kD)|fail);all_goals infer_instance))));dsimp only [ZC,z0,z1])|(apply ZB;(exact oD);all_goals (intro h;try exact xD))|(apply ZM;(exact oD);all_goals (intro h;try exact xD))|refine WC.skip ?_|refine WC.ret ?_|refine WC.block ?_|refine ThenD.r ?_|refine InBlockD.r ?_));all_goals (first|((repeat clear hK);(repeat clear Kx))))
    all_goals try (exfalso;first|contradiction|omega)
    (refine ⟨trivial,_,rfl,?_⟩;exact fD)
   ·rw [if_neg hr] at g2
    rw [show ZCL vs[k]=true by simpa using hr] at c1
    by_cases hk0:k=0
    ·have hb:¬ ZQV (ZB3 vs k) vs[k]:=by unfold ZB3;rw [if_pos hk0];exact fun h=>h
     rw [if_neg hb] at g2
     have hkz:¬ (k:Int)>0:=by omega
     by_cases ha1:A[k]<1
     ·rw [if_pos (.inl ha1)] at g2;subst g2
      ((repeat' (first|((first|apply WL.opN|apply WD.opN);exact yF;dsimp only [ZC,z0,z1])|refine WL.nil ?_|refine WD.nil ?_|refine ZA fun Kx hK=>?_|(refine hK _ _ ?_;clear hK)|refine WC.region ?_|(apply WC.draw;kernel_rfl;kernel_rfl)|((first|apply ZF|apply WD.op);(focus (first|exact wN|(apply SYG.yes;(exact wY);((first|(apply SY.call (c1) Tryz.call41;(exact aD))|(refine ZP Zx (OpD.t rfl) Zh rfl rfl)|(apply SY.load;exact ZBv;exact OpD.t rfl)|(refine SY.ix (R:=RI) (_gR:=inferInstance) elI (OpD.t rfl) (OpD.t rfl) hkA)|((first|apply SY.move|apply SY.assign|apply SY.lss|apply SY.gtr|apply SY.geq|apply SY.neq|apply SY.not) <;> (exact oD))|(apply SY.len;(exact oD);(exact nD);(exact uD))|(apply Zc;(exact eD);(exact oD);(exact oD);exact kD)|(apply ZY;(exact oD);(with_reducible rfl);(exact oD))|(apply ZX;(exact oD);(with_reducible rfl);(exact oD))|fail);all_goals infer_instance))));dsimp only [ZC,z0,z1])|((first|refine ZJ rfl rfl rfl (fun h=>?_) (fun h=>?_)|refine ZI rfl rfl rfl (fun h=>?_) (fun h=>?_)|refine ZH rfl rfl rfl (fun h=>?_) (fun h=>?_)|refine ZT rfl rfl rfl (fun h=>?_) (fun h=>?_)|refine ZS rfl rfl rfl (fun h=>?_) (fun h=>?_)|refine ZR rfl rfl rfl (fun h=>?_) (fun h=>?_)) <;> (first|(exfalso;first|omega|contradiction)|(dsimp only [z0,z1])))|(apply Zb;(exact oD);(with_reducible rfl))|(apply ZQ;(exact oD);(with_reducible rfl))|(apply ZB;(exact oD);all_goals (intro h;try exact xD))|(apply ZM;(exact oD);all_goals (intro h;try exact xD))|refine WC.skip ?_|refine WC.ret ?_|refine WC.block ?_|refine ThenD.r ?_|refine InBlockD.r ?_));all_goals (first|((repeat clear hK);(repeat clear Kx))))
      all_goals try (exfalso;first|contradiction|omega)
      (refine ⟨trivial,_,rfl,?_⟩;exact fD)
     ·by_cases ha2:256≤A[k]
      ·rw [if_pos (.inr ha2)] at g2;subst g2
       ((repeat' (first|((first|apply WL.opN|apply WD.opN);exact yF;dsimp only [ZC,z0,z1])|refine WL.nil ?_|refine WD.nil ?_|refine ZA fun Kx hK=>?_|(refine hK _ _ ?_;clear hK)|refine WC.region ?_|(apply WC.draw;kernel_rfl;kernel_rfl)|((first|apply ZF|apply WD.op);(focus (first|exact wN|(apply SYG.yes;(exact wY);((first|(apply SY.call (c1) Tryz.call41;(exact aD))|(refine ZP Zx (OpD.t rfl) Zh rfl rfl)|(apply SY.load;exact ZBv;exact OpD.t rfl)|(refine SY.ix (R:=RI) (_gR:=inferInstance) elI (OpD.t rfl) (OpD.t rfl) hkA)|((first|apply SY.move|apply SY.assign|apply SY.lss|apply SY.gtr|apply SY.geq|apply SY.neq|apply SY.not) <;> (exact oD))|(apply SY.load;(exact tD);(exact oD))|(apply SY.len;(exact oD);(exact nD);(exact uD))|(apply Zc;(exact eD);(exact oD);(exact oD);exact kD)|(apply ZX;(exact oD);(with_reducible rfl);(exact oD))|fail);all_goals infer_instance))));dsimp only [ZC,z0,z1])|((first|refine ZJ rfl rfl rfl (fun h=>?_) (fun h=>?_)|refine ZI rfl rfl rfl (fun h=>?_) (fun h=>?_)|refine ZH rfl rfl rfl (fun h=>?_) (fun h=>?_)|refine ZT rfl rfl rfl (fun h=>?_) (fun h=>?_)|refine ZS rfl rfl rfl (fun h=>?_) (fun h=>?_)|refine ZR rfl rfl rfl (fun h=>?_) (fun h=>?_)) <;> (first|(exfalso;first|omega|contradiction)|(dsimp only [z0,z1])))|(apply ZQ;(exact oD);(with_reducible rfl))|(apply ZB;(exact oD);all_goals (intro h;try exact xD))|(apply ZM;(exact oD);all_goals (intro h;try exact xD))|refine WC.skip ?_|refine WC.ret ?_|refine WC.block ?_|refine ThenD.r ?_|refine InBlockD.r ?_));all_goals (first|((repeat clear hK);(repeat clear Kx))))
       all_goals try (exfalso;first|contradiction|omega)
       (refine ⟨trivial,_,rfl,?_⟩;exact fD)
      ·rw [if_neg (by omega)] at g2
       ((repeat' (first|((first|apply WL.opN|apply WD.opN);exact yF;dsimp only [ZC,z0,z1])|refine WL.nil ?_|refine WD.nil ?_|refine ZA fun Kx hK=>?_|(refine hK _ _ ?_;clear hK)|refine WC.region ?_|(apply WC.draw;kernel_rfl;kernel_rfl)|((first|apply ZF|apply WD.op);(focus (first|exact wN|(apply SYG.yes;(exact wY);((first|(apply SY.call (c1) Tryz.call41;(exact aD))|(refine ZP Zx (OpD.t rfl) Zh rfl rfl)|(apply SY.load;exact ZBv;exact OpD.t rfl)|(refine SY.ix (R:=RI) (_gR:=inferInstance) elI (OpD.t rfl) (OpD.t rfl) hkA)|((first|apply SY.move|apply SY.assign|apply SY.lss|apply SY.gtr|apply SY.geq|apply SY.neq|apply SY.not) <;> (exact oD))|((first|apply SY.add|apply SY.sub) <;> first|exact oD|omega)|(apply SY.load;(exact tD);(exact oD))|(apply SY.len;(exact oD);(exact nD);(exact uD))|(apply Zc;(exact eD);(exact oD);(exact oD);exact kD)|(apply ZX;(exact oD);(with_reducible rfl);(exact oD))|fail);all_goals infer_instance))));dsimp only [ZC,z0,z1])|((first|refine ZJ rfl rfl rfl (fun h=>?_) (fun h=>?_)|refine ZI rfl rfl rfl (fun h=>?_) (fun h=>?_)|refine ZH rfl rfl rfl (fun h=>?_) (fun h=>?_)|refine ZT rfl rfl rfl (fun h=>?_) (fun h=>?_)|refine ZS rfl rfl rfl (fun h=>?_) (fun h=>?_)|refine ZR rfl rfl rfl (fun h=>?_) (fun h=>?_)) <;> (first|(exfalso;first|omega|contradiction)|(dsimp only [z0,z1])))|(apply ZQ;(exact oD);(with_reducible rfl))|(apply ZB;(exact oD);all_goals (intro h;try exact xD))|(apply ZM;(exact oD);all_goals (intro h;try exact xD))|refine WC.skip ?_|refine WC.block ?_|refine ThenD.n ?_));all_goals (first|((repeat clear hK);(repeat clear Kx))))
       all_goals try (exfalso;first|contradiction|omega)
       (refine ⟨k+1,?_,by first|omega|(simp only;omega),rfl,?_⟩;rotate_left;((try dsimp only [ZK,z0,z1]);repeat (first|exact LeF.nil|refine ZD (k:=?_)));(try dsimp only))
       exact ⟨by omega,g2⟩
    ·have hk1:k-1<vs.length:=by omega
     have hkz:(k:Int)>0:=by omega
     have hp:ZB3 vs k=some vs[k-1]:=by unfold ZB3;rw [if_neg hk0,List.getElem?_eq_getElem hk1]
     have c2:=ZDu vs[k-1] vs[k]
     by_cases hb:0≤ZAe vs[k-1] vs[k]
     ·rw [if_pos (by rw [hp];exact hb)] at g2;subst g2
      ((repeat' (first|((first|apply WL.opN|apply WD.opN);exact yF;dsimp only [ZC,z0,z1])|refine WL.nil ?_|refine WD.nil ?_|refine ZA fun Kx hK=>?_|(refine hK _ _ ?_;clear hK)|refine WC.region ?_|(apply WC.draw;kernel_rfl;kernel_rfl)|((first|apply ZF|apply WD.op);(focus (first|exact wN|(apply SYG.yes;(exact wY);((first|(apply SY.call (c1) Tryz.call41;(exact aD))|(apply SY.call (c2) Tryz.call42;(exact aD))|(refine ZP Zx (OpD.t rfl) Zh rfl rfl)|(refine Zc (R:=RV) (_gR:=inferInstance) (k:=k) elV (OpD.t rfl) (OpD.t rfl) hk)|(refine Zc (R:=RV) (_gR:=inferInstance) (k:=k-1) elV (OpD.t rfl) (OpD.tle rfl (ZBe (by omega))) hk1)|((first|apply SY.move|apply SY.assign|apply SY.lss|apply SY.gtr|apply SY.geq|apply SY.neq|apply SY.not) <;> (exact oD))|((first|apply SY.add|apply SY.sub) <;> first|exact oD|omega)|(apply SY.load;(exact tD);(exact oD))|(apply SY.len;(exact oD);(exact nD);(exact uD))|(apply ZY;(exact oD);(with_reducible rfl);(exact oD))|fail);all_goals infer_instance))));dsimp only [ZC,z0,z1])|((first|refine ZJ rfl rfl rfl (fun h=>?_) (fun h=>?_)|refine ZI rfl rfl rfl (fun h=>?_) (fun h=>?_)|refine ZH rfl rfl rfl (fun h=>?_) (fun h=>?_)|refine ZT rfl rfl rfl (fun h=>?_) (fun h=>?_)|refine ZS rfl rfl rfl (fun h=>?_) (fun h=>?_)|refine ZR rfl rfl rfl (fun h=>?_) (fun h=>?_)) <;> (first|(exfalso;first|omega|contradiction)|(dsimp only [z0,z1])))|(apply ZB;(exact oD);all_goals (intro h;try exact xD))|(apply ZM;(exact oD);all_goals (intro h;try exact xD))|refine WC.skip ?_|refine WC.ret ?_|refine WC.block ?_|refine ThenD.r ?_|refine InBlockD.r ?_));all_goals (first|((repeat clear hK);(repeat clear Kx))))
      all_goals try (exfalso;first|contradiction|omega)
      (refine ⟨trivial,_,rfl,?_⟩;exact fD)
     ·rw [if_neg (by rw [hp];exact hb)] at g2
      by_cases ha:A[k]<1\/256≤A[k]
      ·rw [if_pos ha] at g2;subst g2
       by_cases ha1:A[k]<1
       ·((repeat' (first|((first|apply WL.opN|apply WD.opN);exact yF;dsimp only [ZC,z0,z1])|refine WL.nil ?_|refine WD.nil ?_|refine ZA fun Kx hK=>?_|(refine hK _ _ ?_;clear hK)|refine WC.region ?_|(apply WC.draw;kernel_rfl;kernel_rfl)|((first|apply ZF|apply WD.op);(focus (first|exact wN|(apply SYG.yes;(exact wY);((first|(apply SY.call (c1) Tryz.call41;(exact aD))|(apply SY.call (c2) Tryz.call42;(exact aD))|(refine ZP Zx (OpD.t rfl) Zh rfl rfl)|(apply SY.load;exact ZBv;exact OpD.t rfl)|(refine Zc (R:=RV) (_gR:=inferInstance) (k:=k) elV (OpD.t rfl) (OpD.t rfl) hk)|(refine Zc (R:=RV) (_gR:=inferInstance) (k:=k-1) elV (OpD.t rfl) (OpD.tle rfl (ZBe (by omega))) hk1)|(refine SY.ix (R:=RI) (_gR:=inferInstance) elI (OpD.t rfl) (OpD.t rfl) hkA)|((first|apply SY.move|apply SY.assign|apply SY.lss|apply SY.gtr|apply SY.geq|apply SY.neq|apply SY.not) <;> (exact oD))|((first|apply SY.add|apply SY.sub) <;> first|exact oD|omega)|(apply SY.load;(exact tD);(exact oD))|(apply SY.len;(exact oD);(exact nD);(exact uD))|(apply ZY;(exact oD);(with_reducible rfl);(exact oD))|fail);all_goals infer_instance))));dsimp only [ZC,z0,z1])|((first|refine ZJ rfl rfl rfl (fun h=>?_) (fun h=>?_)|refine ZI rfl rfl rfl (fun h=>?_) (fun h=>?_)|refine ZH rfl rfl rfl (fun h=>?_) (fun h=>?_)|refine ZT rfl rfl rfl (fun h=>?_) (fun h=>?_)|refine ZS rfl rfl rfl (fun h=>?_) (fun h=>?_)|refine ZR rfl rfl rfl (fun h=>?_) (fun h=>?_)) <;> (first|(exfalso;first|omega|contradiction)|(dsimp only [z0,z1])))|(apply Zb;(exact oD);(with_reducible rfl))|(apply ZB;(exact oD);all_goals (intro h;try exact xD))|(apply ZM;(exact oD);all_goals (intro h;try exact xD))|refine WC.skip ?_|refine WC.ret ?_|refine WC.block ?_|refine ThenD.r ?_|refine InBlockD.r ?_));all_goals (first|((repeat clear hK);(repeat clear Kx))))
        all_goals try (exfalso;first|contradiction|omega)
        (refine ⟨trivial,_,rfl,?_⟩;exact fD)
       ·have ha2:256≤A[k]:=by omega
        ((repeat' (first|((first|apply WL.opN|apply WD.opN);exact yF;dsimp only [ZC,z0,z1])|refine WL.nil ?_|refine WD.nil ?_|refine ZA fun Kx hK=>?_|(refine hK _ _ ?_;clear hK)|refine WC.region ?_|(apply WC.draw;kernel_rfl;kernel_rfl)|((first|apply ZF|apply WD.op);(focus (first|exact wN|(apply SYG.yes;(exact wY);((first|(apply SY.call (c1) Tryz.call41;(exact aD))|(apply SY.call (c2) Tryz.call42;(exact aD))|(refine ZP Zx (OpD.t rfl) Zh rfl rfl)|(apply SY.load;exact ZBv;exact OpD.t rfl)|(refine Zc (R:=RV) (_gR:=inferInstance) (k:=k) elV (OpD.t rfl) (OpD.t rfl) hk)|(refine Zc (R:=RV) (_gR:=inferInstance) (k:=k-1) elV (OpD.t rfl) (OpD.tle rfl (ZBe (by omega))) hk1)|(refine SY.ix (R:=RI) (_gR:=inferInstance) elI (OpD.t rfl) (OpD.t rfl) hkA)|((first|apply SY.move|apply SY.assign|apply SY.lss|apply SY.gtr|apply SY.geq|apply SY.neq|apply SY.not) <;> (exact oD))|((first|apply SY.add|apply SY.sub) <;> first|exact oD|omega)|(apply SY.load;(exact tD);(exact oD))|(apply SY.len;(exact oD);(exact nD);(exact uD))|(apply ZY;(exact oD);(with_reducible rfl);(exact oD))|(apply ZX;(exact oD);(with_reducible rfl);(exact oD))|fail);all_goals infer_instance))));dsimp only [ZC,z0,z1])|((first|refine ZJ rfl rfl rfl (fun h=>?_) (fun h=>?_)|refine ZI rfl rfl rfl (fun h=>?_) (fun h=>?_)|refine ZH rfl rfl rfl (fun h=>?_) (fun h=>?_)|refine ZT rfl rfl rfl (fun h=>?_) (fun h=>?_)|refine ZS rfl rfl rfl (fun h=>?_) (fun h=>?_)|refine ZR rfl rfl rfl (fun h=>?_) (fun h=>?_)) <;> (first|(exfalso;first|omega|contradiction)|(dsimp only [z0,z1])))|(apply ZB;(exact oD);all_goals (intro h;try exact xD))|(apply ZM;(exact oD);all_goals (intro h;try exact xD))|refine WC.skip ?_|refine WC.ret ?_|refine WC.block ?_|refine ThenD.r ?_|refine InBlockD.r ?_));all_goals (first|((repeat clear hK);(repeat clear Kx))))
        all_goals try (exfalso;first|contradiction|omega)
        (refine ⟨trivial,_,rfl,?_⟩;exact fD)
      ·rw [if_neg ha] at g2
       ((repeat' (first|((first|apply WL.opN|apply WD.opN);exact yF;dsimp only [ZC,z0,z1])|refine WL.nil ?_|refine WD.nil ?_|refine ZA fun Kx hK=>?_|(refine hK _ _ ?_;clear hK)|refine WC.region ?_|(apply WC.draw;kernel_rfl;kernel_rfl)|((first|apply ZF|apply WD.op);(focus (first|exact wN|(apply SYG.yes;(exact wY);((first|(apply SY.call (c1) Tryz.call41;(exact aD))|(apply SY.call (c2) Tryz.call42;(exact aD))|(refine ZP Zx (OpD.t rfl) Zh rfl rfl)|(apply SY.load;exact ZBv;exact OpD.t rfl)|(refine Zc (R:=RV) (_gR:=inferInstance) (k:=k) elV (OpD.t rfl) (OpD.t rfl) hk)|(refine Zc (R:=RV) (_gR:=inferInstance) (k:=k-1) elV (OpD.t rfl) (OpD.tle rfl (ZBe (by omega))) hk1)|(refine SY.ix (R:=RI) (_gR:=inferInstance) elI (OpD.t rfl) (OpD.t rfl) hkA)|((first|apply SY.move|apply SY.assign|apply SY.lss|apply SY.gtr|apply SY.geq|apply SY.neq|apply SY.not) <;> (exact oD))|((first|apply SY.add|apply SY.sub) <;> first|exact oD|omega)|(apply SY.load;(exact tD);(exact oD))|(apply SY.len;(exact oD);(exact nD);(exact uD))|(apply ZY;(exact oD);(with_reducible rfl);(exact oD))|(apply ZX;(exact oD);(with_reducible rfl);(exact oD))|fail);all_goals infer_instance))));dsimp only [ZC,z0,z1])|((first|refine ZJ rfl rfl rfl (fun h=>?_) (fun h=>?_)|refine ZI rfl rfl rfl (fun h=>?_) (fun h=>?_)|refine ZH rfl rfl rfl (fun h=>?_) (fun h=>?_)|refine ZT rfl rfl rfl (fun h=>?_) (fun h=>?_)|refine ZS rfl rfl rfl (fun h=>?_) (fun h=>?_)|refine ZR rfl rfl rfl (fun h=>?_) (fun h=>?_)) <;> (first|(exfalso;first|omega|contradiction)|(dsimp only [z0,z1])))|(apply ZB;(exact oD);all_goals (intro h;try exact xD))|(apply ZM;(exact oD);all_goals (intro h;try exact xD))|refine WC.skip ?_|refine WC.block ?_|refine ThenD.n ?_));all_goals (first|((repeat clear hK);(repeat clear Kx))))
       all_goals try (exfalso;first|contradiction|omega)
       (refine ⟨k+1,?_,by first|omega|(simp only;omega),rfl,?_⟩;rotate_left;((try dsimp only [ZK,z0,z1]);repeat (first|exact LeF.nil|refine ZD (k:=?_)));(try dsimp only))
       exact ⟨by omega,g2⟩
  ·have hkI:¬ (k:Int)<(vs.length:Int):=by omega
   rw [List.drop_of_length_le (by omega)] at g2
   have h0:o=0:=by
    rw [<- g2]
    cases A.drop k <;> rfl
   subst h0
   ((repeat' (first|((first|apply WL.opN|apply WD.opN);exact yF;dsimp only [ZC,z0,z1])|refine WL.nil ?_|refine ZA fun Kx hK=>?_|(refine hK _ _ ?_;clear hK)|(refine Kont.skip ?_;clear hK)|refine WC.region ?_|((first|apply ZF|apply WD.op);(focus (first|exact wN|(apply SYG.yes;(exact wY);((first|(refine ZP Zx (OpD.t rfl) Zh rfl rfl)|((first|apply SY.move|apply SY.assign|apply SY.lss|apply SY.gtr|apply SY.geq|apply SY.neq|apply SY.not) <;> (exact oD))|(apply SY.len;(exact oD);(exact nD);(exact uD))|fail);all_goals infer_instance))));dsimp only [ZC,z0,z1])|(apply ZB;(exact oD);all_goals (intro h;try exact xD))|refine WC.ret ?_|refine WC.exit ?_));all_goals (first|((repeat clear hK);(repeat clear Kx))))
   all_goals try (exfalso;first|contradiction|omega)
   (refine ⟨trivial,_,rfl,?_⟩;exact fD)
end
section
open Go.RowKit

def ZJ9 (f:Vx->Int) (s:List Vx):Bool:=decide (orL f s=((2 ^ s.length-1:Nat):Int))
set_option maxHeartbeats 4000000 in
theorem ZKA (vs:List Vx) (A:List Int) (s:List Vx) (hA:A.length=vs.length) (hl:vs.length≤1000000) (h8:s.length≤8):Fn Tryz.prog 50 [dS Lab (vs,A),dS ZN s] (dB (ZJ9 (ZZ vs A) s)):=by
 unfold ZJ9
 have hp:=ZXJ ⟨s.length,by omega⟩
 simp only at hp
 have h1:1≤2 ^ s.length:=Nat.one_le_two_pow
 have e1:((2 ^ s.length-1:Nat):Int)=((2 ^ s.length:Nat):Int)-1:=by omega
 rw [e1]
 obtain ⟨N,hN⟩:∃ N,2 ^ s.length=N:=⟨_,rfl⟩
 rw [hN] at hp ⊢
 have ht:=ZEZ vs A s hA hl
 (refine ZE Tryz.func50 rfl rfl ?_;simp only [Tryz.ntmps50,List.length_cons,List.length_nil,Nat.reduceAdd,Nat.reduceSub,List.replicate_succ,List.replicate_zero,List.cons_append,List.nil_append])
 ((repeat' (first|((first|apply WL.opN|apply WD.opN);exact yF;dsimp only [ZC,z0,z1])|refine WL.nil ?_|refine WD.nil ?_|refine ZA fun Kx hK=>?_|(refine hK _ _ ?_;clear hK)|refine WC.region ?_|(apply WC.draw;kernel_rfl;kernel_rfl)|((first|apply WL.opN|apply WD.opN);(focus ((first|(apply SY.load;exact ZAI;exact OpD.t rfl)|(apply SY.call (ht) Tryz.call90;(exact aD))|(refine hN ▸ ZFp h8 OpD.i (OpD.t rfl))|((first|apply SY.move|apply SY.assign|apply SY.eql) <;> (exact oD))|((first|apply SY.sub) <;> first|exact oD|omega)|(apply SY.len;(exact oD);(exact nD);(exact uD))|(apply SY.box;(exact oD);(exact hD))|fail);all_goals infer_instance));dsimp only [ZC,z0,z1])|refine WC.ret ?_));all_goals (first|((repeat clear hK);(repeat clear Kx))))
 all_goals try (exfalso;first|contradiction|omega)
 (refine ⟨trivial,_,rfl,?_⟩;exact fD)
end
section
open Go.RowKit

set_option maxHeartbeats 4000000 in
theorem ZL1 (l:Cx) (vs:List Vx) (A:List Int) (hA:A.length=vs.length) (hl:vs.length≤1000000) (h8:∀ s∈l,s.length≤8):Fn Tryz.prog 30 [dS Zo l,dS Lab (vs,A)] (dI (((l.filter (ZJ9 (ZZ vs A))).length:Nat):Int)):=by
 (refine ZE Tryz.func30 rfl rfl ?_;simp only [Tryz.ntmps30,List.length_cons,List.length_nil,Nat.reduceAdd,Nat.reduceSub,List.replicate_succ,List.replicate_zero,List.cons_append,List.nil_append])
 (first|refine ZU (t:=0) rfl ZDX fun hl0=>?_|refine ZU (t:=0) rfl ZDE fun hl0=>?_|refine ZU (t:=0) rfl ZIJ fun hl0=>?_);simp only [maxLen] at hl0
 (repeat' (first|(apply WL.opN;exact yF;dsimp only [ZC,z0,z1])|refine WL.nil ?_|refine ZA fun Kx hK=>?_|(refine hK _ _ ?_;clear hK)|refine WC.region ?_|(apply WL.opN;(focus ((first|(apply SY.len;(exact oD);(exact nD);(exact uD))|(apply SY.box;(exact oD);(exact hD))|fail);all_goals infer_instance));dsimp only [ZC,z0,z1])|refine WC.block ?_))
 all_goals try (exfalso;first|contradiction|omega)
 (refine WC.loopU (X:=Nat) (fun k=>[(10,dI (k:Int)),(5,dI ((((l.take k).filter (ZJ9 (ZZ vs A))).length:Nat):Int)),(7,dA),(11,dA),(12,dA),(13,dA),(14,dA),(15,dA),(16,dA),(17,dA),(18,dA),(19,dA)]) (fun k=>[]) (fun k=>l.length-k) (fun k=>k≤l.length) 0 ?start ?frame0 ?objs0 ?round)
 case start=>exact Nat.zero_le _
 case frame0=>((try dsimp only [ZK,z0,z1]);repeat (first|exact LeF.nil|refine ZD (k:=?_)))
 case objs0=>rfl
 case round =>
  rintro k hk
  dsimp only [ZK,z0,z1]
  have hcl:((l.take k).filter (ZJ9 (ZZ vs A))).length≤k:=by
   have:=List.length_filter_le (ZJ9 (ZZ vs A)) (l.take k)
   rw [List.length_take] at this
   omega
  by_cases hkl:k<l.length
  ·have hkI:(k:Int)<(l.length:Int):=by omega
   have c1:=ZKA vs A l[k] hA hl (h8 _ (List.getElem_mem hkl))
   have hsn:=ZQz (q:=ZJ9 (ZZ vs A)) hkl
   cases hq:ZJ9 (ZZ vs A) l[k] with
   | true =>
    rw [hq] at c1
    have e1:(((l.take k).filter (ZJ9 (ZZ vs A))).length:Int)+1=(((l.take (k+1)).filter (ZJ9 (ZZ vs A))).length:Int):=by
     rw [hsn,if_pos hq,List.length_append]
     simp
    ((repeat' (first|(apply WL.opN;exact yF;dsimp only [ZC,z0,z1])|refine WL.nil ?_|refine ZA fun Kx hK=>?_|(refine hK _ _ ?_;clear hK)|refine WC.region ?_|(apply WL.opN;(focus ((first|(apply SY.load;exact ZAI;exact OpD.t rfl)|(apply SY.call (c1) Tryz.call50;(exact aD))|((first|apply SY.move|apply SY.assign|apply SY.lss) <;> (exact oD))|((first|apply SY.add) <;> first|exact oD|omega)|(apply SY.ix;(exact eD);(exact oD);(exact oD);exact kD)|fail);all_goals infer_instance));dsimp only [ZC,z0,z1])|(apply Zb;(exact oD);(with_reducible rfl))|(apply ZB;(exact oD);all_goals (intro h;try exact xD))|refine WC.skip ?_|refine WC.block ?_|refine ThenD.n ?_));all_goals (first|((repeat clear hK);(repeat clear Kx))))
    all_goals try (exfalso;first|contradiction|omega)
    rw [e1]
    (refine ⟨k+1,?_,by first|omega|(simp only;omega),rfl,?_⟩;rotate_left;((try dsimp only [ZK,z0,z1]);repeat (first|exact LeF.nil|refine ZD (k:=?_)));(try dsimp only))
    exact hkl
   | false =>
    rw [hq] at c1
    have e1:((l.take k).filter (ZJ9 (ZZ vs A))).length=((l.take (k+1)).filter (ZJ9 (ZZ vs A))).length:=by
     rw [hsn,if_neg (by rw [hq];simp),List.append_nil]
    ((repeat' (first|(apply WL.opN;exact yF;dsimp only [ZC,z0,z1])|refine WL.nil ?_|refine ZA fun Kx hK=>?_|(refine hK _ _ ?_;clear hK)|refine WC.region ?_|(apply WL.opN;(focus ((first|(apply SY.load;exact ZAI;exact OpD.t rfl)|(apply SY.call (c1) Tryz.call50;(exact aD))|((first|apply SY.move|apply SY.assign|apply SY.lss) <;> (exact oD))|((first|apply SY.add) <;> first|exact oD|omega)|(apply SY.ix;(exact eD);(exact oD);(exact oD);exact kD)|fail);all_goals infer_instance));dsimp only [ZC,z0,z1])|(apply ZQ;(exact oD);(with_reducible rfl))|(apply ZB;(exact oD);all_goals (intro h;try exact xD))|refine WC.skip ?_|refine WC.block ?_|refine ThenD.n ?_));all_goals (first|((repeat clear hK);(repeat clear Kx))))
    all_goals try (exfalso;first|contradiction|omega)
    rw [e1]
    (refine ⟨k+1,?_,by first|omega|(simp only;omega),rfl,?_⟩;rotate_left;((try dsimp only [ZK,z0,z1]);repeat (first|exact LeF.nil|refine ZD (k:=?_)));(try dsimp only))
    exact hkl
  ·have hkI:¬ (k:Int)<(l.length:Int):=by omega
   obtain rfl:k=l.length:=by omega
   rw [List.take_length]
   ((repeat' (first|(apply WL.opN;exact yF;dsimp only [ZC,z0,z1])|refine WL.nil ?_|refine ZA fun Kx hK=>?_|(refine hK _ _ ?_;clear hK)|(refine Kont.skip ?_;clear hK)|refine WC.region ?_|(apply WL.opN;(focus ((first|((first|apply SY.move|apply SY.assign|apply SY.lss) <;> (exact oD))|fail);all_goals infer_instance));dsimp only [ZC,z0,z1])|(apply ZB;(exact oD);all_goals (intro h;try exact xD))|refine WC.ret ?_|refine WC.exit ?_));all_goals (first|((repeat clear hK);(repeat clear Kx))))
   all_goals try (exfalso;first|contradiction|omega)
   (refine ⟨trivial,_,rfl,?_⟩;exact fD)
end
section
open Go.RowKit
abbrev CpxL:Rel (List (List Vx)):=ZSg False
variable {S:Prop}

end
end Go.Proofs.YtofkoleingbbpaaGreatDoor
namespace Go.Proofs.YtofkoleingbbpaaGreatDoor.C34
section
variable {α:Type}
theorem ZFy {β:Type} (l:List β) (n:Nat):l.zipIdx n=l.zipIdx.map fun p=>(p.1,p.2+n):=by
 apply List.ext_getElem?
 intro i
 rw [List.getElem?_map,List.getElem?_zipIdx,List.getElem?_zipIdx]
 cases l[i]? <;> simp [Nat.add_comm]
end
section

variable {α:Type}
def ZEA {β:Type} (x:List Int) (off:Nat) (U:List β) (q:β->Bool):List β:=(U.zipIdx.filter fun p=>decide (((off+p.2:Nat):Int)∈x) && q p.1).map (·.1)
theorem ZFS {β:Type} (x:List Int) (off:Nat) (A B:List β) (q:β->Bool):ZEA x off (A++B) q=ZEA x off A q++ZEA x (off+A.length) B q:=by
 unfold ZEA
 rw [List.zipIdx_append,List.filter_append,List.map_append]
 congr 1
 rw [ZFy,List.filter_map,List.map_map]
 have:((fun p:β × Nat=>decide (((off+p.2:Nat):Int)∈x) && q p.1) ∘ fun p:β × Nat=>(p.1,p.2+(0+A.length)))=fun p=>decide (((off+A.length+p.2:Nat):Int)∈x) && q p.1:=by
  funext p
  simp only [Function.comp_apply]
  rw [show off+(p.2+(0+A.length))=off+A.length+p.2 by omega]
 rw [this]
 rfl
end
end Go.Proofs.YtofkoleingbbpaaGreatDoor.C34
