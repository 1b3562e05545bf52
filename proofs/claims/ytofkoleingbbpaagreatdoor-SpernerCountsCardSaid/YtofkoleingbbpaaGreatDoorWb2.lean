/- Part 2: walks by contracts, and plain laws. -/
import Derived.Test.YtofkoleingbbpaaGreatDoorWa24
import Derived.Test.YtofkoleingbbpaaGreatDoorWa25
import Derived.Test.YtofkoleingbbpaaGreatDoorWb1
set_option linter.unusedVariables false
set_option linter.unusedSimpArgs false
set_option linter.unusedSectionVars false
set_option maxRecDepth 100000
set_option maxHeartbeats 4000000
namespace Go.Proofs.YtofkoleingbbpaaGreatDoor
section
open Go.RowKit

theorem ZCX {vs:List Vx} {A:List Int} {v:Vx} {k:Nat} (hk:k<vs.length) (hA:k<A.length):ZZ (vs.drop k) (A.drop k) v=if vs[k]=v then A[k] else ZZ (vs.drop (k+1)) (A.drop (k+1)) v:=by
 rw [List.drop_eq_getElem_cons hk,List.drop_eq_getElem_cons hA]
 rfl
set_option maxHeartbeats 4000000 in
theorem ZFk (vs:List Vx) (A:List Int) (v:Vx) (hA:A.length=vs.length) (hl:vs.length≤1000000):Fn Tryz.prog 89 [dS Lab (vs,A),dS RV v] (dI (ZZ vs A v)):=by
 obtain ⟨o,ho⟩:∃ o,ZZ vs A v=o:=⟨_,rfl⟩
 rw [ho]
 (refine ZE Tryz.func89 rfl rfl ?_;simp only [Tryz.ntmps89,List.length_cons,List.length_nil,Nat.reduceAdd,Nat.reduceSub,List.replicate_succ,List.replicate_zero,List.cons_append,List.nil_append])
 (repeat' (first|((first|apply WL.opN|apply WD.opN);exact yF;dsimp only [ZC,z0,z1])|refine WL.nil ?_|refine ZA fun Kx hK=>?_|(refine hK _ _ ?_;clear hK)|refine WC.region ?_|((first|apply WL.opN|apply WD.opN);(focus ((first|(apply SY.box;(exact oD);(exact hD))|fail);all_goals infer_instance));dsimp only [ZC,z0,z1])|refine WC.block ?_))
 all_goals try (exfalso;first|contradiction|omega)
 (refine WC.loopU (X:=Nat) (fun k=>[(5,dI (k:Int)),(4,dA),(6,dA),(7,dA),(8,dA),(9,dA),(10,dA),(11,dA),(12,dA),(13,dA),(14,dA),(15,dA),(16,dA),(17,dA),(18,dA),(19,dA),(20,dA),(21,dA),(22,dA),(23,dA),(24,dA)]) (fun k=>[]) (fun k=>vs.length-k) (fun k=>k≤vs.length/\ZZ (vs.drop k) (A.drop k) v=o) 0 ?start ?frame0 ?objs0 ?round)
 case start=>exact ⟨Nat.zero_le _,ho⟩
 case frame0=>((try dsimp only [ZK,z0,z1]);repeat (first|exact LeF.nil|refine ZD (k:=?_)))
 case objs0=>rfl
 case round =>
  rintro k ⟨hk,hE⟩
  dsimp only [ZK,z0,z1]
  by_cases hkl:k<vs.length
  ·have hkI:(k:Int)<(vs.length:Int):=by omega
   have hkA:k<A.length:=by omega
   rw [ZCX hkl hkA] at hE
   by_cases he:vs[k]=v
   ·rw [if_pos he] at hE
    subst hE
    ((repeat' (first|((first|apply WL.opN|apply WD.opN);exact yF;dsimp only [ZC,z0,z1])|refine WL.nil ?_|refine WD.nil ?_|refine ZA fun Kx hK=>?_|(refine hK _ _ ?_;clear hK)|refine WC.region ?_|(apply WC.draw;kernel_rfl;kernel_rfl)|((first|apply WL.opN|apply WD.opN);(focus ((first|(refine ZP Zx (OpD.t rfl) Zh rfl rfl)|(apply SY.load;exact ZBv;exact OpD.t rfl)|(exact SY.ix (R:=RI) (_gR:=inferInstance) (k:=k) elI (OpD.t rfl) (OpD.t rfl) hkA)|((first|apply SY.move|apply SY.assign|apply SY.lss|apply SY.eql) <;> (exact oD))|(apply SY.len;(exact oD);(exact nD);(exact uD))|(apply Zc;(exact eD);(exact oD);(exact oD);exact kD)|(first|(apply SY.fld0 vxT <;> (exact oD))|(apply SY.fld1 vxT <;> (exact oD))|(apply ZEB vxT <;> (exact oD)))|fail);all_goals infer_instance));dsimp only [ZC,z0,z1])|(apply ZB;(exact oD);all_goals (intro h;try exact xD))|refine WC.skip ?_|refine WC.ret ?_|refine WC.block ?_|refine ThenD.r ?_|refine InBlockD.r ?_));all_goals (first|((repeat clear hK);(repeat clear Kx))))
    all_goals try (exfalso;first|contradiction|omega)
    (refine ⟨trivial,_,rfl,?_⟩;exact fD)
   ·rw [if_neg he] at hE
    ((repeat' (first|((first|apply WL.opN|apply WD.opN);exact yF;dsimp only [ZC,z0,z1])|refine WL.nil ?_|refine WD.nil ?_|refine ZA fun Kx hK=>?_|(refine hK _ _ ?_;clear hK)|refine WC.region ?_|(apply WC.draw;kernel_rfl;kernel_rfl)|((first|apply WL.opN|apply WD.opN);(focus ((first|(refine ZP Zx (OpD.t rfl) Zh rfl rfl)|((first|apply SY.move|apply SY.assign|apply SY.lss|apply SY.eql) <;> (exact oD))|((first|apply SY.add) <;> first|exact oD|omega)|(apply SY.len;(exact oD);(exact nD);(exact uD))|(apply Zc;(exact eD);(exact oD);(exact oD);exact kD)|(first|(apply SY.fld0 vxT <;> (exact oD))|(apply SY.fld1 vxT <;> (exact oD))|(apply ZEB vxT <;> (exact oD)))|fail);all_goals infer_instance));dsimp only [ZC,z0,z1])|(apply ZB;(exact oD);all_goals (intro h;try exact xD))|refine WC.skip ?_|refine WC.block ?_|refine ThenD.n ?_));all_goals (first|((repeat clear hK);(repeat clear Kx))))
    all_goals try (exfalso;first|contradiction|omega)
    (refine ⟨k+1,?_,by first|omega|(simp only;omega),rfl,?_⟩;rotate_left;((try dsimp only [ZK,z0,z1]);repeat (first|exact LeF.nil|refine ZD (k:=?_)));(try dsimp only))
    exact ⟨hkl,hE⟩
  ·have hkI:¬ (k:Int)<(vs.length:Int):=by omega
   rw [List.drop_of_length_le (by omega)] at hE
   have h0:o=0:=by rw [<- hE];unfold ZZ;rfl
   subst h0
   ((repeat' (first|((first|apply WL.opN|apply WD.opN);exact yF;dsimp only [ZC,z0,z1])|refine WL.nil ?_|refine ZA fun Kx hK=>?_|(refine hK _ _ ?_;clear hK)|(refine Kont.skip ?_;clear hK)|refine WC.region ?_|((first|apply WL.opN|apply WD.opN);(focus ((first|(refine ZP Zx (OpD.t rfl) Zh rfl rfl)|((first|apply SY.move|apply SY.assign|apply SY.lss|apply SY.eql) <;> (exact oD))|(apply SY.len;(exact oD);(exact nD);(exact uD))|fail);all_goals infer_instance));dsimp only [ZC,z0,z1])|(apply ZB;(exact oD);all_goals (intro h;try exact xD))|refine WC.ret ?_|refine WC.exit ?_));all_goals (first|((repeat clear hK);(repeat clear Kx))))
   all_goals try (exfalso;first|contradiction|omega)
   (refine ⟨trivial,_,rfl,?_⟩;exact fD)
theorem ZEZ (vs:List Vx) (A:List Int) (s:List Vx) (hA:A.length=vs.length) (hl:vs.length≤1000000):Fn Tryz.prog 90 [dS Lab (vs,A),dS ZN s] (dI (orL (ZZ vs A) s)):=by
 (refine ZE Tryz.func90 rfl rfl ?_;simp only [Tryz.ntmps90,List.length_cons,List.length_nil,Nat.reduceAdd,Nat.reduceSub,List.replicate_succ,List.replicate_zero,List.cons_append,List.nil_append])
 (first|refine ZU (t:=1) rfl ZDX fun hl1=>?_|refine ZU (t:=1) rfl ZDE fun hl1=>?_|refine ZU (t:=1) rfl ZIJ fun hl1=>?_);simp only [maxLen] at hl1
 (repeat' (first|((first|apply WL.opN|apply WD.opN);exact yF;dsimp only [ZC,z0,z1])|refine WL.nil ?_|refine ZA fun Kx hK=>?_|(refine hK _ _ ?_;clear hK)|refine WC.region ?_|((first|apply WL.opN|apply WD.opN);(focus ((first|(apply SY.box;(exact oD);(exact hD))|fail);all_goals infer_instance));dsimp only [ZC,z0,z1])|refine WC.block ?_))
 all_goals try (exfalso;first|contradiction|omega)
 (refine WC.loopU (X:=Nat) (fun k=>[(6,dI (k:Int)),(5,dI (orL (ZZ vs A) (s.take k))),(7,dA),(8,dA),(9,dA),(10,dA),(11,dA),(12,dA),(13,dA),(14,dA),(15,dA),(16,dA),(17,dA),(18,dA),(19,dA),(20,dA)]) (fun k=>[]) (fun k=>s.length-k) (fun k=>k≤s.length) 0 ?start ?frame0 ?objs0 ?round)
 case start=>exact Nat.zero_le _
 case frame0=>((try dsimp only [ZK,z0,z1]);repeat (first|exact LeF.nil|refine ZD (k:=?_)))
 case objs0=>rfl
 case round =>
  rintro k hk
  dsimp only [ZK,z0,z1]
  by_cases hkl:k<s.length
  ·have hkI:(k:Int)<(s.length:Int):=by omega
   have he:ior (orL (ZZ vs A) (s.take k)) (ZZ vs A s[k])=orL (ZZ vs A) (s.take (k+1)):=by
    unfold orL
    rw [List.take_succ_eq_append_getElem hkl,List.foldl_append]
    rfl
   have hof:=ZFk vs A s[k] hA hl
   ((repeat' (first|((first|apply WL.opN|apply WD.opN);exact yF;dsimp only [ZC,z0,z1])|refine WL.nil ?_|refine WD.nil ?_|refine ZA fun Kx hK=>?_|(refine hK _ _ ?_;clear hK)|refine WC.region ?_|(apply WC.draw;kernel_rfl;kernel_rfl)|((first|apply WL.opN|apply WD.opN);(focus ((first|(apply SY.load;exact ZAI;exact OpD.t rfl)|(apply SY.call (hof) Tryz.call89;(exact aD))|((first|apply SY.move|apply SY.assign|apply SY.lss|apply SY.or) <;> (exact oD))|((first|apply SY.add) <;> first|exact oD|omega)|(apply SY.len;(exact oD);(exact nD);(exact uD))|(apply Zc;(exact eD);(exact oD);(exact oD);exact kD)|fail);all_goals infer_instance));dsimp only [ZC,z0,z1])|(apply ZB;(exact oD);all_goals (intro h;try exact xD))|refine WC.skip ?_|refine WC.block ?_|refine ThenD.n ?_));all_goals (first|((repeat clear hK);(repeat clear Kx))))
   all_goals try (exfalso;first|contradiction|omega)
   rw [he]
   (refine ⟨k+1,?_,by first|omega|(simp only;omega),rfl,?_⟩;rotate_left;((try dsimp only [ZK,z0,z1]);repeat (first|exact LeF.nil|refine ZD (k:=?_)));(try dsimp only))
   omega
  ·have hkI:¬ (k:Int)<(s.length:Int):=by omega
   obtain rfl:k=s.length:=by omega
   rw [List.take_length]
   ((repeat' (first|((first|apply WL.opN|apply WD.opN);exact yF;dsimp only [ZC,z0,z1])|refine WL.nil ?_|refine ZA fun Kx hK=>?_|(refine hK _ _ ?_;clear hK)|(refine Kont.skip ?_;clear hK)|refine WC.region ?_|((first|apply WL.opN|apply WD.opN);(focus ((first|((first|apply SY.move|apply SY.assign|apply SY.lss|apply SY.or) <;> (exact oD))|(apply SY.len;(exact oD);(exact nD);(exact uD))|fail);all_goals infer_instance));dsimp only [ZC,z0,z1])|(apply ZB;(exact oD);all_goals (intro h;try exact xD))|refine WC.ret ?_|refine WC.exit ?_));all_goals (first|((repeat clear hK);(repeat clear Kx))))
   all_goals try (exfalso;first|contradiction|omega)
   (refine ⟨trivial,_,rfl,?_⟩;exact fD)
end
section
open Go.RowKit

set_option maxHeartbeats 8000000 in
theorem ZET (vs:List Vx) (A:List Int):Fn Tryz.prog 14 [dS Lab (vs,A)] (dI (Z9 vs A)):=by
 obtain ⟨o,ho⟩:∃ o,Z9 vs A=o:=⟨_,rfl⟩
 rw [ho]
 unfold Z9 at ho
 (refine ZE Tryz.func14 rfl rfl ?_;simp only [Tryz.ntmps14,List.length_cons,List.length_nil,Nat.reduceAdd,Nat.reduceSub,List.replicate_succ,List.replicate_zero,List.cons_append,List.nil_append])
 by_cases h1:4096<vs.length
 ·rw [if_pos h1] at ho;subst ho
  ((repeat' (first|((first|apply WL.opN|apply WD.opN);exact yF;dsimp only [ZC,z0,z1])|refine WL.nil ?_|refine ZA fun Kx hK=>?_|(refine hK _ _ ?_;clear hK)|refine WC.region ?_|((first|apply ZF|apply WD.op);(focus (first|exact wN|(apply SYG.yes;(exact wY);((first|(refine ZP Zx (OpD.t rfl) Zh rfl rfl)|((first|apply SY.move|apply SY.assign|apply SY.lss|apply SY.gtr|apply SY.geq|apply SY.neq|apply SY.not) <;> (exact oD))|(apply SY.len;(exact oD);(exact nD);(exact uD))|(apply SY.box;(exact oD);(exact hD))|fail);all_goals infer_instance))));dsimp only [ZC,z0,z1])|(apply ZB;(exact oD);all_goals (intro h;try exact xD))|refine WC.ret ?_|refine ThenD.r ?_));all_goals (first|((repeat clear hK);(repeat clear Kx))))
  all_goals try (exfalso;omega)
  (refine ⟨trivial,_,rfl,?_⟩;exact fD)
 rw [if_neg h1] at ho
 by_cases h2:A.length≠vs.length
 ·rw [if_pos h2] at ho;subst ho
  ((repeat' (first|((first|apply WL.opN|apply WD.opN);exact yF;dsimp only [ZC,z0,z1])|refine WL.nil ?_|refine ZA fun Kx hK=>?_|(refine hK _ _ ?_;clear hK)|refine WC.region ?_|((first|apply ZF|apply WD.op);(focus (first|exact wN|(apply SYG.yes;(exact wY);((first|(refine ZP Zx (OpD.t rfl) Zh rfl rfl)|(apply SY.load;exact ZBv;exact OpD.t rfl)|((first|apply SY.move|apply SY.assign|apply SY.lss|apply SY.gtr|apply SY.geq|apply SY.neq|apply SY.not) <;> (exact oD))|(apply SY.len;(exact oD);(exact nD);(exact uD))|(apply SY.box;(exact oD);(exact hD))|fail);all_goals infer_instance))));dsimp only [ZC,z0,z1])|(apply ZB;(exact oD);all_goals (intro h;try exact xD))|(apply ZG;(exact oD);all_goals (intro h;try exact xD))|refine WC.skip ?_|refine WC.ret ?_|refine ThenD.r ?_));all_goals (first|((repeat clear hK);(repeat clear Kx))))
  all_goals try (exfalso;omega)
  (refine ⟨trivial,_,rfl,?_⟩;exact fD)
 rw [if_neg h2] at ho
 have hA:A.length=vs.length:=Classical.byContradiction h2
 (repeat' (first|((first|apply WL.opN|apply WD.opN);exact yF;dsimp only [ZC,z0,z1])|refine WL.nil ?_|refine ZA fun Kx hK=>?_|(refine hK _ _ ?_;clear hK)|refine WC.region ?_|((first|apply ZF|apply WD.op);(focus (first|exact wN|(apply SYG.yes;(exact wY);((first|(refine ZP Zx (OpD.t rfl) Zh rfl rfl)|(apply SY.load;exact ZBv;exact OpD.t rfl)|((first|apply SY.move|apply SY.assign|apply SY.lss|apply SY.gtr|apply SY.geq|apply SY.neq|apply SY.not) <;> (exact oD))|(apply SY.len;(exact oD);(exact nD);(exact uD))|(apply SY.box;(exact oD);(exact hD))|fail);all_goals infer_instance))));dsimp only [ZC,z0,z1])|(apply ZB;(exact oD);all_goals (intro h;try exact xD))|(apply ZG;(exact oD);all_goals (intro h;try exact xD))|refine WC.skip ?_|refine WC.block ?_))
 all_goals try (exfalso;omega)
 (refine WC.loopU (X:=Nat) (fun k=>[(3,dI (k:Int)),(2,dA),(15,dA),(16,dA),(17,dA),(18,dA),(19,dA),(20,dA),(21,dA),(22,dA),(23,dA),(24,dA),(25,dA),(26,dA),(27,dA),(28,dA),(29,dA),(30,dA),(31,dA),(32,dA),(33,dA),(34,dA),(35,dA),(36,dA),(37,dA),(38,dA),(39,dA),(40,dA),(41,dA),(42,dA),(43,dA),(44,dA),(45,dA),(46,dA),(47,dA),(48,dA),(49,dA),(50,dA),(51,dA),(52,dA),(53,dA),(54,dA),(55,dA),(56,dA),(57,dA),(58,dA),(59,dA)]) (fun k=>[]) (fun k=>vs.length-k) (fun k=>k≤vs.length/\ZEK (ZB3 vs k) (vs.drop k) (A.drop k)=o) 0 ?start ?frame0 ?objs0 ?round)
 case start=>exact ⟨Nat.zero_le _,ho⟩
 case frame0=>((try dsimp only [ZK,z0,z1]);repeat (first|exact LeF.nil|refine ZD (k:=?_)))
 case objs0=>rfl
 case round =>
  rintro k ⟨g1,g2⟩
  dsimp only [ZK,z0,z1]
  by_cases hk:k<vs.length
  ·have hkI:(k:Int)<(vs.length:Int):=by omega
   have hkA:k<A.length:=by omega
   rw [ZDr hk hkA] at g2
   have c1:=ZEe vs[k]
   by_cases hr:ZCL vs[k]=false
   ·rw [if_pos hr] at g2;subst g2
    rw [hr] at c1
    ((repeat' (first|((first|apply WL.opN|apply WD.opN);exact yF;dsimp only [ZC,z0,z1])|refine WL.nil ?_|refine ZA fun Kx hK=>?_|(refine hK _ _ ?_;clear hK)|refine WC.region ?_|((first|apply ZF|apply WD.op);(focus (first|exact wN|(apply SYG.yes;(exact wY);((first|(apply SY.call (c1) Tryz.call41;(exact aD))|(refine ZP Zx (OpD.t rfl) Zh rfl rfl)|((first|apply SY.move|apply SY.assign|apply SY.lss|apply SY.gtr|apply SY.geq|apply SY.neq|apply SY.not) <;> (exact oD))|(apply SY.len;(exact oD);(exact nD);(exact uD))|(apply Zc;(exact eD);(exact oD);(exact oD);exact kD)|fail);all_goals infer_instance))));dsimp only [ZC,z0,z1])|(apply ZB;(exact oD);all_goals (intro h;try exact xD))|(apply ZM;(exact oD);all_goals (intro h;try exact xD))|refine WC.skip ?_|refine WC.ret ?_|refine WC.block ?_|refine ThenD.r ?_|refine InBlockD.r ?_));all_goals (first|((repeat clear hK);(repeat clear Kx))))
    all_goals try (exfalso;first|contradiction|omega)
    (refine ⟨trivial,_,rfl,?_⟩;exact fD)
   ·rw [if_neg hr] at g2
    rw [show ZCL vs[k]=true by simpa using hr] at c1
    by_cases hk0:k=0
    ·have hb:¬ ZQV (ZB3 vs k) vs[k]:=by unfold ZB3;rw [if_pos hk0];exact fun h=>h
     rw [if_neg hb] at g2
     have hkz:¬ (k:Int)>0:=by omega
     by_cases ha1:A[k]<1
     ·rw [if_pos (.inl ha1)] at g2;subst g2
      ((repeat' (first|((first|apply WL.opN|apply WD.opN);exact yF;dsimp only [ZC,z0,z1])|refine WL.nil ?_|refine WD.nil ?_|refine ZA fun Kx hK=>?_|(refine hK _ _ ?_;clear hK)|refine WC.region ?_|(apply WC.draw;kernel_rfl;kernel_rfl)|((first|apply ZF|apply WD.op);(focus (first|exact wN|(apply SYG.yes;(exact wY);((first|(apply SY.call (c1) Tryz.call41;(exact aD))|(refine ZP Zx (OpD.t rfl) Zh rfl rfl)|(apply SY.load;exact ZBv;exact OpD.t rfl)|(refine SY.ix (R:=RI) (_gR:=inferInstance) elI (OpD.t rfl) (OpD.t rfl) hkA)|((first|apply SY.move|apply SY.assign|apply SY.lss|apply SY.gtr|apply SY.geq|apply SY.neq|apply SY.not) <;> (exact oD))|(apply SY.len;(exact oD);(exact nD);(exact uD))|(apply Zc;(exact eD);(exact oD);(exact oD);exact kD)|(apply ZY;(exact oD);(with_reducible rfl);(exact oD))|(apply ZX;(exact oD);(with_reducible rfl);(exact oD))|fail);all_goals infer_instance))));dsimp only [ZC,z0,z1])|((first|refine ZJ rfl rfl rfl (fun h=>?_) (fun h=>?_)|refine ZI rfl rfl rfl (fun h=>?_) (fun h=>?_)|refine ZH rfl rfl rfl (fun h=>?_) (fun h=>?_)|refine ZT rfl rfl rfl (fun h=>?_) (fun h=>?_)|refine ZS rfl rfl rfl (fun h=>?_) (fun h=>?_)|refine ZR rfl rfl rfl (fun h=>?_) (fun h=>?_)) <;> (first|(exfalso;first|omega|contradiction)|(dsimp only [z0,z1])))|(apply Zb;(exact oD);(with_reducible rfl))|(apply ZQ;(exact oD);(with_reducible rfl))|(apply ZB;(exact oD);all_goals (intro h;try exact xD))|(apply ZM;(exact oD);all_goals (intro h;try exact xD))|refine WC.skip ?_|refine WC.ret ?_|refine WC.block ?_|refine ThenD.r ?_|refine InBlockD.r ?_));all_goals (first|((repeat clear hK);(repeat clear Kx))))
      all_goals try (exfalso;first|contradiction|omega)
      (refine ⟨trivial,_,rfl,?_⟩;exact fD)
     ·by_cases ha2:256≤A[k]
      ·rw [if_pos (.inr ha2)] at g2;subst g2
       ((repeat' (first|((first|apply WL.opN|apply WD.opN);exact yF;dsimp only [ZC,z0,z1])|refine WL.nil ?_|refine WD.nil ?_|refine ZA fun Kx hK=>?_|(refine hK _ _ ?_;clear hK)|refine WC.region ?_|(apply WC.draw;kernel_rfl;kernel_rfl)|((first|apply ZF|apply WD.op);(focus (first|exact wN|(apply SYG.yes;(exact wY);((first|(apply SY.call (c1) Tryz.call41;(exact aD))|(refine ZP Zx (OpD.t rfl) Zh rfl rfl)|(apply SY.load;exact ZBv;exact OpD.t rfl)|(refine SY.ix (R:=RI) (_gR:=inferInstance) elI (OpD.t rfl) (OpD.t rfl) hkA)|((first|apply SY.move|apply SY.assign|apply SY.lss|apply SY.gtr|apply SY.geq|apply SY.neq|apply SY.not) <;> (exact oD))|(apply SY.load;(exact tD);(exact oD))|(apply SY.len;(exact oD);(exact nD);(exact uD))|(apply Zc;(exact eD);(exact oD);(exact oD);exact kD)|(apply ZX;(exact oD);(with_reducible rfl);(exact oD))|fail);all_goals infer_instance))));dsimp only [ZC,z0,z1])|((first|refine ZJ rfl rfl rfl (fun h=>?_) (fun h=>?_)|refine ZI rfl rfl rfl (fun h=>?_) (fun h=>?_)|refine ZH rfl rfl rfl (fun h=>?_) (fun h=>?_)|refine ZT rfl rfl rfl (fun h=>?_) (fun h=>?_)|refine ZS rfl rfl rfl (fun h=>?_) (fun h=>?_)|refine ZR rfl rfl rfl (fun h=>?_) (fun h=>?_)) <;> (first|(exfalso;first|omega|contradiction)|(dsimp only [z0,z1])))|(apply ZQ;(exact oD);(with_reducible rfl))|(apply ZB;(exact oD);all_goals (intro h;try exact xD))|(apply ZM;(exact oD);all_goals (intro h;try exact xD))|refine WC.skip ?_|refine WC.ret ?_|refine WC.block ?_|refine ThenD.r ?_|refine InBlockD.r ?_));all_goals (first|((repeat clear hK);(repeat clear Kx))))
       all_goals try (exfalso;first|contradiction|omega)
       (refine ⟨trivial,_,rfl,?_⟩;exact fD)
      ·rw [if_neg (by omega)] at g2
       ((repeat' (first|((first|apply WL.opN|apply WD.opN);exact yF;dsimp only [ZC,z0,z1])|refine WL.nil ?_|refine WD.nil ?_|refine ZA fun Kx hK=>?_|(refine hK _ _ ?_;clear hK)|refine WC.region ?_|(apply WC.draw;kernel_rfl;kernel_rfl)|((first|apply ZF|apply WD.op);(focus (first|exact wN|(apply SYG.yes;(exact wY);((first|(apply SY.call (c1) Tryz.call41;(exact aD))|(refine ZP Zx (OpD.t rfl) Zh rfl rfl)|(apply SY.load;exact ZBv;exact OpD.t rfl)|(refine SY.ix (R:=RI) (_gR:=inferInstance) elI (OpD.t rfl) (OpD.t rfl) hkA)|((first|apply SY.move|apply SY.assign|apply SY.lss|apply SY.gtr|apply SY.geq|apply SY.neq|apply SY.not) <;> (exact oD))|((first|apply SY.add|apply SY.sub) <;> first|exact oD|omega)|(apply SY.load;(exact tD);(exact oD))|(apply SY.len;(exact oD);(exact nD);(exact uD))|(apply Zc;(exact eD);(exact oD);(exact oD);exact kD)|(apply ZX;(exact oD);(with_reducible rfl);(exact oD))|fail);all_goals infer_instance))));dsimp only [ZC,z0,z1])|((first|refine ZJ rfl rfl rfl (fun h=>?_) (fun h=>?_)|refine ZI rfl rfl rfl (fun h=>?_) (fun h=>?_)|refine ZH rfl rfl rfl (fun h=>?_) (fun h=>?_)|refine ZT rfl rfl rfl (fun h=>?_) (fun h=>?_)|refine ZS rfl rfl rfl (fun h=>?_) (fun h=>?_)|refine ZR rfl rfl rfl (fun h=>?_) (fun h=>?_)) <;> (first|(exfalso;first|omega|contradiction)|(dsimp only [z0,z1])))|(apply ZQ;(exact oD);(with_reducible rfl))|(apply ZB;(exact oD);all_goals (intro h;try exact xD))|(apply ZM;(exact oD);all_goals (intro h;try exact xD))|refine WC.skip ?_|refine WC.block ?_|refine ThenD.n ?_));all_goals (first|((repeat clear hK);(repeat clear Kx))))
       all_goals try (exfalso;first|contradiction|omega)
       (refine ⟨k+1,?_,by first|omega|(simp only;omega),rfl,?_⟩;rotate_left;((try dsimp only [ZK,z0,z1]);repeat (first|exact LeF.nil|refine ZD (k:=?_)));(try dsimp only))
       exact ⟨by omega,g2⟩
    ·have hk1:k-1<vs.length:=by omega
     have hkz:(k:Int)>0:=by omega
     have hp:ZB3 vs k=some vs[k-1]:=by unfold ZB3;rw [if_neg hk0,List.getElem?_eq_getElem hk1]
     have c2:=ZDu vs[k-1] vs[k]
     by_cases hb:0≤ZAe vs[k-1] vs[k]
     ·rw [if_pos (by rw [hp];exact hb)] at g2;subst g2
      ((repeat' (first|((first|apply WL.opN|apply WD.opN);exact yF;dsimp only [ZC,z0,z1])|refine WL.nil ?_|refine WD.nil ?_|refine ZA fun Kx hK=>?_|(refine hK _ _ ?_;clear hK)|refine WC.region ?_|(apply WC.draw;kernel_rfl;kernel_rfl)|((first|apply ZF|apply WD.op);(focus (first|exact wN|(apply SYG.yes;(exact wY);((first|(apply SY.call (c1) Tryz.call41;(exact aD))|(apply SY.call (c2) Tryz.call42;(exact aD))|(refine ZP Zx (OpD.t rfl) Zh rfl rfl)|(refine Zc (R:=RV) (_gR:=inferInstance) (k:=k) elV (OpD.t rfl) (OpD.t rfl) hk)|(refine Zc (R:=RV) (_gR:=inferInstance) (k:=k-1) elV (OpD.t rfl) (OpD.tle rfl (ZBe (by omega))) hk1)|((first|apply SY.move|apply SY.assign|apply SY.lss|apply SY.gtr|apply SY.geq|apply SY.neq|apply SY.not) <;> (exact oD))|((first|apply SY.add|apply SY.sub) <;> first|exact oD|omega)|(apply SY.load;(exact tD);(exact oD))|(apply SY.len;(exact oD);(exact nD);(exact uD))|(apply ZY;(exact oD);(with_reducible rfl);(exact oD))|fail);all_goals infer_instance))));dsimp only [ZC,z0,z1])|((first|refine ZJ rfl rfl rfl (fun h=>?_) (fun h=>?_)|refine ZI rfl rfl rfl (fun h=>?_) (fun h=>?_)|refine ZH rfl rfl rfl (fun h=>?_) (fun h=>?_)|refine ZT rfl rfl rfl (fun h=>?_) (fun h=>?_)|refine ZS rfl rfl rfl (fun h=>?_) (fun h=>?_)|refine ZR rfl rfl rfl (fun h=>?_) (fun h=>?_)) <;> (first|(exfalso;first|omega|contradiction)|(dsimp only [z0,z1])))|(apply ZB;(exact oD);all_goals (intro h;try exact xD))|(apply ZM;(exact oD);all_goals (intro h;try exact xD))|refine WC.skip ?_|refine WC.ret ?_|refine WC.block ?_|refine ThenD.r ?_|refine InBlockD.r ?_));all_goals (first|((repeat clear hK);(repeat clear Kx))))
      all_goals try (exfalso;first|contradiction|omega)
      (refine ⟨trivial,_,rfl,?_⟩;exact fD)
     ·rw [if_neg (by rw [hp];exact hb)] at g2
      by_cases ha:A[k]<1\/256≤A[k]
      ·rw [if_pos ha] at g2;subst g2
       by_cases ha1:A[k]<1
       ·((repeat' (first|((first|apply WL.opN|apply WD.opN);exact yF;dsimp only [ZC,z0,z1])|refine WL.nil ?_|refine WD.nil ?_|refine ZA fun Kx hK=>?_|(refine hK _ _ ?_;clear hK)|refine WC.region ?_|(apply WC.draw;kernel_rfl;kernel_rfl)|((first|apply ZF|apply WD.op);(focus (first|exact wN|(apply SYG.yes;(exact wY);((first|(apply SY.call (c1) Tryz.call41;(exact aD))|(apply SY.call (c2) Tryz.call42;(exact aD))|(refine ZP Zx (OpD.t rfl) Zh rfl rfl)|(apply SY.load;exact ZBv;exact OpD.t rfl)|(refine Zc (R:=RV) (_gR:=inferInstance) (k:=k) elV (OpD.t rfl) (OpD.t rfl) hk)|(refine Zc (R:=RV) (_gR:=inferInstance) (k:=k-1) elV (OpD.t rfl) (OpD.tle rfl (ZBe (by omega))) hk1)|(refine SY.ix (R:=RI) (_gR:=inferInstance) elI (OpD.t rfl) (OpD.t rfl) hkA)|((first|apply SY.move|apply SY.assign|apply SY.lss|apply SY.gtr|apply SY.geq|apply SY.neq|apply SY.not) <;> (exact oD))|((first|apply SY.add|apply SY.sub) <;> first|exact oD|omega)|(apply SY.load;(exact tD);(exact oD))|(apply SY.len;(exact oD);(exact nD);(exact uD))|(apply ZY;(exact oD);(with_reducible rfl);(exact oD))|fail);all_goals infer_instance))));dsimp only [ZC,z0,z1])|((first|refine ZJ rfl rfl rfl (fun h=>?_) (fun h=>?_)|refine ZI rfl rfl rfl (fun h=>?_) (fun h=>?_)|refine ZH rfl rfl rfl (fun h=>?_) (fun h=>?_)|refine ZT rfl rfl rfl (fun h=>?_) (fun h=>?_)|refine ZS rfl rfl rfl (fun h=>?_) (fun h=>?_)|refine ZR rfl rfl rfl (fun h=>?_) (fun h=>?_)) <;> (first|(exfalso;first|omega|contradiction)|(dsimp only [z0,z1])))|(apply Zb;(exact oD);(with_reducible rfl))|(apply ZB;(exact oD);all_goals (intro h;try exact xD))|(apply ZM;(exact oD);all_goals (intro h;try exact xD))|refine WC.skip ?_|refine WC.ret ?_|refine WC.block ?_|refine ThenD.r ?_|refine InBlockD.r ?_));all_goals (first|((repeat clear hK);(repeat clear Kx))))
        all_goals try (exfalso;first|contradiction|omega)
        (refine ⟨trivial,_,rfl,?_⟩;exact fD)
       ·have ha2:256≤A[k]:=by omega
        ((repeat' (first|((first|apply WL.opN|apply WD.opN);exact yF;dsimp only [ZC,z0,z1])|refine WL.nil ?_|refine WD.nil ?_|refine ZA fun Kx hK=>?_|(refine hK _ _ ?_;clear hK)|refine WC.region ?_|(apply WC.draw;kernel_rfl;kernel_rfl)|((first|apply ZF|apply WD.op);(focus (first|exact wN|(apply SYG.yes;(exact wY);((first|(apply SY.call (c1) Tryz.call41;(exact aD))|(apply SY.call (c2) Tryz.call42;(exact aD))|(refine ZP Zx (OpD.t rfl) Zh rfl rfl)|(apply SY.load;exact ZBv;exact OpD.t rfl)|(refine Zc (R:=RV) (_gR:=inferInstance) (k:=k) elV (OpD.t rfl) (OpD.t rfl) hk)|(refine Zc (R:=RV) (_gR:=inferInstance) (k:=k-1) elV (OpD.t rfl) (OpD.tle rfl (ZBe (by omega))) hk1)|(refine SY.ix (R:=RI) (_gR:=inferInstance) elI (OpD.t rfl) (OpD.t rfl) hkA)|((first|apply SY.move|apply SY.assign|apply SY.lss|apply SY.gtr|apply SY.geq|apply SY.neq|apply SY.not) <;> (exact oD))|((first|apply SY.add|apply SY.sub) <;> first|exact oD|omega)|(apply SY.load;(exact tD);(exact oD))|(apply SY.len;(exact oD);(exact nD);(exact uD))|(apply ZY;(exact oD);(with_reducible rfl);(exact oD))|(apply ZX;(exact oD);(with_reducible rfl);(exact oD))|fail);all_goals infer_instance))));dsimp only [ZC,z0,z1])|((first|refine ZJ rfl rfl rfl (fun h=>?_) (fun h=>?_)|refine ZI rfl rfl rfl (fun h=>?_) (fun h=>?_)|refine ZH rfl rfl rfl (fun h=>?_) (fun h=>?_)|refine ZT rfl rfl rfl (fun h=>?_) (fun h=>?_)|refine ZS rfl rfl rfl (fun h=>?_) (fun h=>?_)|refine ZR rfl rfl rfl (fun h=>?_) (fun h=>?_)) <;> (first|(exfalso;first|omega|contradiction)|(dsimp only [z0,z1])))|(apply ZB;(exact oD);all_goals (intro h;try exact xD))|(apply ZM;(exact oD);all_goals (intro h;try exact xD))|refine WC.skip ?_|refine WC.ret ?_|refine WC.block ?_|refine ThenD.r ?_|refine InBlockD.r ?_));all_goals (first|((repeat clear hK);(repeat clear Kx))))
        all_goals try (exfalso;first|contradiction|omega)
        (refine ⟨trivial,_,rfl,?_⟩;exact fD)
      ·rw [if_neg ha] at g2
       ((repeat' (first|((first|apply WL.opN|apply WD.opN);exact yF;dsimp only [ZC,z0,z1])|refine WL.nil ?_|refine WD.nil ?_|refine ZA fun Kx hK=>?_|(refine hK _ _ ?_;clear hK)|refine WC.region ?_|(apply WC.draw;kernel_rfl;kernel_rfl)|((first|apply ZF|apply WD.op);(focus (first|exact wN|(apply SYG.yes;(exact wY);((first|(apply SY.call (c1) Tryz.call41;(exact aD))|(apply SY.call (c2) Tryz.call42;(exact aD))|(refine ZP Zx (OpD.t rfl) Zh rfl rfl)|(apply SY.load;exact ZBv;exact OpD.t rfl)|(refine Zc (R:=RV) (_gR:=inferInstance) (k:=k) elV (OpD.t rfl) (OpD.t rfl) hk)|(refine Zc (R:=RV) (_gR:=inferInstance) (k:=k-1) elV (OpD.t rfl) (OpD.tle rfl (ZBe (by omega))) hk1)|(refine SY.ix (R:=RI) (_gR:=inferInstance) elI (OpD.t rfl) (OpD.t rfl) hkA)|((first|apply SY.move|apply SY.assign|apply SY.lss|apply SY.gtr|apply SY.geq|apply SY.neq|apply SY.not) <;> (exact oD))|((first|apply SY.add|apply SY.sub) <;> first|exact oD|omega)|(apply SY.load;(exact tD);(exact oD))|(apply SY.len;(exact oD);(exact nD);(exact uD))|(apply ZY;(exact oD);(with_reducible rfl);(exact oD))|(apply ZX;(exact oD);(with_reducible rfl);(exact oD))|fail);all_goals infer_instance))));dsimp only [ZC,z0,z1])|((first|refine ZJ rfl rfl rfl (fun h=>?_) (fun h=>?_)|refine ZI rfl rfl rfl (fun h=>?_) (fun h=>?_)|refine ZH rfl rfl rfl (fun h=>?_) (fun h=>?_)|refine ZT rfl rfl rfl (fun h=>?_) (fun h=>?_)|refine ZS rfl rfl rfl (fun h=>?_) (fun h=>?_)|refine ZR rfl rfl rfl (fun h=>?_) (fun h=>?_)) <;> (first|(exfalso;first|omega|contradiction)|(dsimp only [z0,z1])))|(apply ZB;(exact oD);all_goals (intro h;try exact xD))|(apply ZM;(exact oD);all_goals (intro h;try exact xD))|refine WC.skip ?_|refine WC.block ?_|refine ThenD.n ?_));all_goals (first|((repeat clear hK);(repeat clear Kx))))
       all_goals try (exfalso;first|contradiction|omega)
       (refine ⟨k+1,?_,by first|omega|(simp only;omega),rfl,?_⟩;rotate_left;((try dsimp only [ZK,z0,z1]);repeat (first|exact LeF.nil|refine ZD (k:=?_)));(try dsimp only))
       exact ⟨by omega,g2⟩
  ·have hkI:¬ (k:Int)<(vs.length:Int):=by omega
   rw [List.drop_of_length_le (by omega)] at g2
   have h0:o=0:=by
    rw [<- g2]
    cases A.drop k <;> rfl
   subst h0
   ((repeat' (first|((first|apply WL.opN|apply WD.opN);exact yF;dsimp only [ZC,z0,z1])|refine WL.nil ?_|refine ZA fun Kx hK=>?_|(refine hK _ _ ?_;clear hK)|(refine Kont.skip ?_;clear hK)|refine WC.region ?_|((first|apply ZF|apply WD.op);(focus (first|exact wN|(apply SYG.yes;(exact wY);((first|(refine ZP Zx (OpD.t rfl) Zh rfl rfl)|((first|apply SY.move|apply SY.assign|apply SY.lss|apply SY.gtr|apply SY.geq|apply SY.neq|apply SY.not) <;> (exact oD))|(apply SY.len;(exact oD);(exact nD);(exact uD))|fail);all_goals infer_instance))));dsimp only [ZC,z0,z1])|(apply ZB;(exact oD);all_goals (intro h;try exact xD))|refine WC.ret ?_|refine WC.exit ?_));all_goals (first|((repeat clear hK);(repeat clear Kx))))
   all_goals try (exfalso;first|contradiction|omega)
   (refine ⟨trivial,_,rfl,?_⟩;exact fD)
end
end Go.Proofs.YtofkoleingbbpaaGreatDoor
