/- Part 3: walks by contracts, and plain laws. -/
import Derived.Test.YtofkoleingbbpaaGreatDoorWa30
import Derived.Test.YtofkoleingbbpaaGreatDoorWc2
set_option linter.unusedVariables false
set_option linter.unusedSimpArgs false
set_option linter.unusedSectionVars false
set_option maxRecDepth 100000
set_option maxHeartbeats 4000000
namespace Go.Proofs.YtofkoleingbbpaaGreatDoor
section
open Go.RowKit

theorem ZVV (F:Cx) (V:List Vx) (C:Cx):Fn Tryz.prog 18 [dS ZPy (F,V,C)] (dB (ZBa F && decide (V.length≤60) && decide (C.length≤60))):=by
 have c1:=ZUb F
 (refine ZE Tryz.func18 rfl rfl ?_;simp only [Tryz.ntmps18,List.length_cons,List.length_nil,Nat.reduceAdd,Nat.reduceSub,List.replicate_succ,List.replicate_zero,List.cons_append,List.nil_append])
 cases hf:ZBa F
 ·rw [hf] at c1
  ((repeat' (first|(apply WL.opN;exact yF;dsimp only [ZC,z0,z1])|refine WL.nil ?_|refine ZA fun Kx hK=>?_|(refine hK _ _ ?_;clear hK)|refine WC.region ?_|(apply ZF;(focus (first|exact wN|(apply SYG.yes;(exact wY);((first|(exact SY.box (OpD.t rfl) ZAR)|(exact ZP ZCN (OpD.t rfl) ZA2 rfl rfl)|(exact ZAb tyC (OpD.t rfl))|(apply SY.call (c1) Tryz.call32;(exact aD))|(apply ZX;(exact oD);(with_reducible rfl);(exact oD))|fail);all_goals infer_instance))));dsimp only [ZC,z0,z1])|refine WC.ret ?_));all_goals (first|((repeat clear hK);(repeat clear Kx))))
  all_goals ((refine ⟨trivial,_,rfl,?_⟩;exact fD))
  all_goals simp
 ·rw [hf] at c1
  ((repeat' (first|(apply WL.opN;exact yF;dsimp only [ZC,z0,z1])|refine WL.nil ?_|refine ZA fun Kx hK=>?_|(refine hK _ _ ?_;clear hK)|refine WC.region ?_|(apply ZF;(focus (first|exact wN|(apply SYG.yes;(exact wY);((first|(exact SY.box (OpD.t rfl) ZAR)|(exact ZP ZCN (OpD.t rfl) ZA2 rfl rfl)|(exact ZAb tyC (OpD.t rfl))|(apply SY.call (c1) Tryz.call32;(exact aD))|((first|apply SY.move|apply SY.assign|apply SY.leq) <;> (exact oD))|(apply SY.load;(exact tD);(exact oD))|(apply SY.len;(exact oD);(exact nD);(exact uD))|(apply ZY;(exact oD);(with_reducible rfl);(exact oD))|(apply ZX;(exact oD);(with_reducible rfl);(exact oD))|fail);all_goals infer_instance))));dsimp only [ZC,z0,z1])|((first|refine ZJ rfl rfl rfl (fun h=>?_) (fun h=>?_)|refine ZI rfl rfl rfl (fun h=>?_) (fun h=>?_)|refine ZH rfl rfl rfl (fun h=>?_) (fun h=>?_)) <;> (first|(exfalso;first|omega|contradiction)|(dsimp only [z0,z1])))|refine WC.ret ?_));all_goals (first|((repeat clear hK);(repeat clear Kx))))
  all_goals (refine ⟨trivial,_,rfl,?_⟩;refine FinD.b ?_)
  all_goals first|(rw [show decide (V.length≤60)=true from decide_eq_true (by omega),Bool.true_and,Bool.true_and];exact decide_eq_decide.2 (by omega))|(rw [show decide (V.length≤60)=false from decide_eq_false (by omega)];simp)
theorem ZUK {V:List Vx} {C:Cx} {s:List Vx} {k:Nat} (h:k<V.length) (h':k<C.length):((V.zip C).take (k+1)).foldl (ZDb s) []=ZDb s (((V.zip C).take k).foldl (ZDb s) []) (V[k],C[k]):=by
 rw [Zd (show k<(V.zip C).length by rw [List.length_zip];omega),List.foldl_append,List.getElem_zip];rfl
theorem ZSO (F:Cx) (V:List Vx) (C:Cx) (s:List Vx) (hl:C.length=V.length) (hc:∀ c∈C,c.length≤8) (hV:V.length≤60):Fn Tryz.prog 96 [dS ZPy (F,V,C),dS ZN s] (dS ZN (unR V C s)):=by
 (refine ZE Tryz.func96 rfl rfl ?_;simp only [Tryz.ntmps96,List.length_cons,List.length_nil,Nat.reduceAdd,Nat.reduceSub,List.replicate_succ,List.replicate_zero,List.cons_append,List.nil_append])
 (repeat' (first|(apply WL.opN;exact yF;dsimp only [ZC,z0,z1])|refine WL.nil ?_|refine ZA fun Kx hK=>?_|(refine hK _ _ ?_;clear hK)|refine WC.region ?_|(apply ZF;(focus (first|exact wN|(apply SYG.yes;(exact wY);((first|(exact SY.box (OpD.t rfl) ZAR)|fail);all_goals infer_instance))));dsimp only [ZC,z0,z1])|refine WC.block ?_))
 (refine WC.loopU (X:=Nat) (fun k=>[(5,dS ZN (((V.zip C).take k).foldl (ZDb s) [])),(6,dI (k:Int)),(7,dA),(8,dA),(9,dA),(10,dA),(11,dA),(12,dA),(13,dA),(14,dA),(15,dA),(16,dA),(17,dA),(18,dA),(19,dA),(20,dA),(21,dA),(22,dA),(23,dA),(24,dA),(25,dA),(26,dA),(27,dA),(28,dA),(29,dA),(30,dA),(31,dA),(32,dA),(33,dA),(34,dA)]) (fun k=>[]) (fun k=>V.length-k) (fun k=>k≤V.length) 0 ?start ?frame0 ?objs0 ?round)
 case start=>exact Nat.zero_le _
 case frame0=>((try dsimp only [ZK,z0,z1]);repeat (first|exact LeF.nil|refine ZD (k:=?_)))
 case objs0=>rfl
 case round =>
  rintro k k1
  dsimp only [ZK,z0,z1]
  by_cases hk:k<V.length
  ·have hk':k<C.length:=by omega
   have hn:=ZMF s ((V.zip C).take k) [] (fun p hp=>hc _ (List.of_mem_zip (List.mem_of_mem_take hp)).2)
   rw [List.length_take,List.length_nil] at hn
   have hc8:=hc _ (List.getElem_mem hk')
   have hst:=ZUK (s:=s) hk hk'
   have c1:=ZGr s V[k]
   by_cases hm:V[k]∈s
   ·rw [decide_eq_true hm] at c1
    rw [show ZDb s (((V.zip C).take k).foldl (ZDb s) []) (V[k],C[k])=ZBH (((V.zip C).take k).foldl (ZDb s) []) C[k] from if_pos hm] at hst
    have c2:=ZHB (((V.zip C).take k).foldl (ZDb s) []) C[k] (by omega) (by omega)
    rw [<- hst] at c2
    ((repeat' (first|(apply WL.opN;exact yF;dsimp only [ZC,z0,z1])|refine WL.nil ?_|refine ZA fun Kx hK=>?_|(refine hK _ _ ?_;clear hK)|refine WC.region ?_|(apply ZF;(focus (first|exact wN|(apply SYG.yes;(exact wY);((first|(exact ZP ZCN (OpD.t rfl) ZA2 rfl rfl)|(refine ZUT (R:=RV) (_gR:=inferInstance) elV hk rfl (OpD.t rfl) (OpD.t rfl))|(refine ZCj (R:=ZN) (_gR:=inferInstance) ZCF hk' rfl (OpD.t rfl) (OpD.t rfl))|(apply SY.call (c1) Tryz.call55;(exact aD))|(apply SY.call (c2) Tryz.call126;(exact aD))|((first|apply SY.move|apply SY.assign|apply SY.lss) <;> (exact oD))|((first|apply SY.add) <;> first|exact oD|omega)|(apply SY.load;(exact tD);(exact oD))|(apply SY.len;(exact oD);(exact nD);(exact uD))|(apply ZY;(exact oD);(with_reducible rfl);(exact oD))|fail);all_goals infer_instance))));dsimp only [ZC,z0,z1])|((first|refine ZJ rfl rfl rfl (fun h=>?_) (fun h=>?_)|refine ZI rfl rfl rfl (fun h=>?_) (fun h=>?_)|refine ZH rfl rfl rfl (fun h=>?_) (fun h=>?_)) <;> (first|(exfalso;first|omega|contradiction)|(dsimp only [z0,z1])))|(apply Zb;(exact oD);(with_reducible rfl))|(apply ZB;(exact oD);all_goals (intro h;try exact xD))|refine WC.skip ?_|refine WC.block ?_|refine ThenD.n ?_));all_goals (first|((repeat clear hK);(repeat clear Kx))))
    all_goals try (exfalso;omega)
    (refine ⟨k+1,?_,by first|omega|(simp only;omega),rfl,?_⟩;rotate_left;((try dsimp only [ZK,z0,z1]);repeat (first|exact LeF.nil|refine ZD (k:=?_)));(try dsimp only))
    omega
   ·rw [decide_eq_false hm] at c1
    rw [show ZDb s (((V.zip C).take k).foldl (ZDb s) []) (V[k],C[k])=((V.zip C).take k).foldl (ZDb s) [] from if_neg hm] at hst
    rw [<- hst]
    ((repeat' (first|(apply WL.opN;exact yF;dsimp only [ZC,z0,z1])|refine WL.nil ?_|refine ZA fun Kx hK=>?_|(refine hK _ _ ?_;clear hK)|refine WC.region ?_|(apply ZF;(focus (first|exact wN|(apply SYG.yes;(exact wY);((first|(exact ZP ZCN (OpD.t rfl) ZA2 rfl rfl)|(refine ZUT (R:=RV) (_gR:=inferInstance) elV hk rfl (OpD.t rfl) (OpD.t rfl))|(apply SY.call (c1) Tryz.call55;(exact aD))|((first|apply SY.move|apply SY.assign|apply SY.lss) <;> (exact oD))|((first|apply SY.add) <;> first|exact oD|omega)|(apply SY.load;(exact tD);(exact oD))|(apply SY.len;(exact oD);(exact nD);(exact uD))|(apply ZY;(exact oD);(with_reducible rfl);(exact oD))|fail);all_goals infer_instance))));dsimp only [ZC,z0,z1])|((first|refine ZJ rfl rfl rfl (fun h=>?_) (fun h=>?_)|refine ZI rfl rfl rfl (fun h=>?_) (fun h=>?_)|refine ZH rfl rfl rfl (fun h=>?_) (fun h=>?_)) <;> (first|(exfalso;first|omega|contradiction)|(dsimp only [z0,z1])))|(apply ZQ;(exact oD);(with_reducible rfl))|(apply ZB;(exact oD);all_goals (intro h;try exact xD))|refine WC.skip ?_|refine WC.block ?_|refine ThenD.n ?_));all_goals (first|((repeat clear hK);(repeat clear Kx))))
    all_goals try (exfalso;omega)
    (refine ⟨k+1,?_,by first|omega|(simp only;omega),rfl,?_⟩;rotate_left;((try dsimp only [ZK,z0,z1]);repeat (first|exact LeF.nil|refine ZD (k:=?_)));(try dsimp only))
    omega
  ·((repeat' (first|(apply WL.opN;exact yF;dsimp only [ZC,z0,z1])|refine WL.nil ?_|refine ZA fun Kx hK=>?_|(refine hK _ _ ?_;clear hK)|(refine Kont.skip ?_;clear hK)|refine WC.region ?_|(apply ZF;(focus (first|exact wN|(apply SYG.yes;(exact wY);((first|(exact ZP ZCN (OpD.t rfl) ZA2 rfl rfl)|((first|apply SY.move|apply SY.assign|apply SY.lss) <;> (exact oD))|(apply SY.len;(exact oD);(exact nD);(exact uD))|(apply ZX;(exact oD);(with_reducible rfl);(exact oD))|fail);all_goals infer_instance))));dsimp only [ZC,z0,z1])|((first|refine ZJ rfl rfl rfl (fun h=>?_) (fun h=>?_)|refine ZI rfl rfl rfl (fun h=>?_) (fun h=>?_)|refine ZH rfl rfl rfl (fun h=>?_) (fun h=>?_)) <;> (first|(exfalso;first|omega|contradiction)|(dsimp only [z0,z1])))|(apply ZQ;(exact oD);(with_reducible rfl))|refine WC.ret ?_|refine WC.exit ?_));all_goals (first|((repeat clear hK);(repeat clear Kx))))
   all_goals try (exfalso;omega)
   (refine ⟨trivial,_,rfl,?_⟩;refine ZCQ ?_)
   rw [List.take_of_length_le (by rw [List.length_zip];omega)];rfl
theorem ZVI (c F:Cx) (V:List Vx) (C:Cx) (hF:F.length≤100) (hV:V.length≤60):Fn Tryz.prog 54 [dS Cpx c,dS ZPy (F,V,C)] (dI (ZBi (okR c V C) c F V C)):=by
 (refine ZE Tryz.func54 rfl rfl ?_;simp only [Tryz.ntmps54,List.length_cons,List.length_nil,Nat.reduceAdd,Nat.reduceSub,List.replicate_succ,List.replicate_zero,List.cons_append,List.nil_append])
 have c1:=ZDV c
 have c2:=ZDV F
 by_cases h1:ZAl c≠0
 ·rw [show ZBi (okR c V C) c F V C=ZAl c from if_pos h1]
  ((repeat' (first|((first|apply WL.opN|apply WD.opN);exact yF;dsimp only [ZC,z0,z1])|refine WL.nil ?_|refine ZA fun Kx hK=>?_|(refine hK _ _ ?_;clear hK)|refine WC.region ?_|((first|apply ZF|apply WD.op);(focus (first|exact wN|(apply SYG.yes;(exact wY);((first|(exact SY.box (OpD.t rfl) ZAR)|(apply SY.call (c1) Tryz.call48;(exact aD))|((first|apply SY.move|apply SY.assign|apply SY.lss|apply SY.neq|apply SY.not) <;> (exact oD))|(apply SY.box;(exact oD);(exact hD))|fail);all_goals infer_instance))));dsimp only [ZC,z0,z1])|(apply ZG;(exact oD);all_goals (intro h;try exact xD))|refine WC.ret ?_|refine ThenD.r ?_));all_goals (first|((repeat clear hK);(repeat clear Kx))))
  all_goals try (exfalso;omega)
  (refine ⟨trivial,_,rfl,?_⟩;exact fD)
 have h1':ZAl c=0:=by omega
 rw [h1'] at c1
 by_cases h2:ZAl F≠0
 ·rw [show ZBi (okR c V C) c F V C=ZAl F by unfold ZBi;rw [if_neg h1,if_pos h2]]
  ((repeat' (first|((first|apply WL.opN|apply WD.opN);exact yF;dsimp only [ZC,z0,z1])|refine WL.nil ?_|refine ZA fun Kx hK=>?_|(refine hK _ _ ?_;clear hK)|refine WC.region ?_|((first|apply ZF|apply WD.op);(focus (first|exact wN|(apply SYG.yes;(exact wY);((first|(exact SY.box (OpD.t rfl) ZAR)|(exact ZP ZCN (OpD.t rfl) ZA2 rfl rfl)|(exact ZAb tyC (OpD.t rfl))|(apply SY.call (c1) Tryz.call48;exact ArgsD.cons (OpD.t rfl) (ArgsD.nil))|(apply SY.call (c2) Tryz.call48;exact ArgsD.cons (OpD.t rfl) (ArgsD.nil))|((first|apply SY.move|apply SY.assign|apply SY.lss|apply SY.neq|apply SY.not) <;> (exact oD))|(apply SY.box;(exact oD);(exact hD))|fail);all_goals infer_instance))));dsimp only [ZC,z0,z1])|(apply ZG;(exact oD);all_goals (intro h;try exact xD))|refine WC.skip ?_|refine WC.ret ?_|refine ThenD.r ?_));all_goals (first|((repeat clear hK);(repeat clear Kx))))
  all_goals try (exfalso;omega)
  (refine ⟨trivial,_,rfl,?_⟩;exact fD)
 have h2':ZAl F=0:=by omega
 rw [h2'] at c2
 have hsh:=(ZAA.1 h2').short
 have c3:=ZCZ F hsh hF
 have c4:=ZL9 V (ZCP F)
 have hcl:ZAm V (ZCP F)=0↔V=ZCP F:=ZBY
 by_cases h3:V=ZCP F/\C.length=V.length
 ·rw [decide_eq_true (hcl.2 h3.1)] at c4
  have h34:=h3.2
  have h3':=h3
  clear h3
  (repeat' (first|((first|apply WL.opN|apply WD.opN);exact yF;dsimp only [ZC,z0,z1])|refine WL.nil ?_|refine WD.nil ?_|refine ZA fun Kx hK=>?_|(refine hK _ _ ?_;clear hK)|refine WC.region ?_|(apply WC.draw;kernel_rfl;kernel_rfl)|((first|apply ZF|apply WD.op);(focus (first|exact wN|(apply SYG.yes;(exact wY);((first|(exact SY.box (OpD.t rfl) ZAR)|(exact ZP ZCN (OpD.t rfl) ZA2 rfl rfl)|(exact ZAb tyC (OpD.t rfl))|(exact ZBD (OpD.t rfl))|(apply SY.call (c1) Tryz.call48;exact ArgsD.cons (OpD.t rfl) (ArgsD.nil))|(apply SY.call (c2) Tryz.call48;exact ArgsD.cons (OpD.t rfl) (ArgsD.nil))|(apply SY.call (c3) Tryz.call88;(exact aD))|(apply SY.call (c4) Tryz.call38;(exact aD))|((first|apply SY.move|apply SY.assign|apply SY.lss|apply SY.neq|apply SY.not) <;> (exact oD))|(apply SY.load;(exact tD);(exact oD))|(apply SY.len;(exact oD);(exact nD);(exact uD))|(apply ZX;(exact oD);(with_reducible rfl);(exact oD))|(apply SY.box;(exact oD);(exact hD))|fail);all_goals infer_instance))));dsimp only [ZC,z0,z1])|(apply ZG;(exact oD);all_goals (intro h;try exact xD))|refine WC.skip ?_|refine WC.block ?_))
  all_goals try (exfalso;omega)
  (refine WC.loopU (X:=Nat) (fun k=>[(7,dI (k:Int)),(4,dA),(8,dA),(37,dA),(38,dA),(39,dA),(40,dA),(41,dA),(42,dA),(43,dA),(44,dA),(45,dA),(46,dA),(47,dA),(48,dA),(49,dA),(50,dA),(51,dA),(52,dA),(53,dA),(54,dA),(55,dA),(56,dA),(57,dA),(58,dA),(59,dA),(60,dA)]) (fun k=>[]) (fun k=>C.length-k) (fun k=>k≤C.length/\ZLL c C=ZLL c (C.drop k)) 0 ?start ?frame0 ?objs0 ?round)
  case start=>exact ⟨Nat.zero_le _,rfl⟩
  case frame0=>((try dsimp only [ZK,z0,z1]);repeat (first|exact LeF.nil|refine ZD (k:=?_)))
  case objs0=>rfl
  case round =>
   rintro k ⟨k1,k2⟩
   dsimp only [ZK,z0,z1]
   by_cases hk:k<C.length
   ·rw [ZLM hk] at k2
    have c5:=ZIx C[k]
    have c6:=ZJ3 c C[k]
    by_cases q1:Z5 C[k]≠0
    ·rw [if_pos q1] at k2
     rw [ZF6 h1' h2' h3' k2 q1]
     ((repeat' (first|((first|apply WL.opN|apply WD.opN);exact yF;dsimp only [ZC,z0,z1])|refine WL.nil ?_|refine ZA fun Kx hK=>?_|(refine hK _ _ ?_;clear hK)|refine WC.region ?_|((first|apply ZF|apply WD.op);(focus (first|exact wN|(apply SYG.yes;(exact wY);((first|(exact ZP ZCN (OpD.t rfl) ZA2 rfl rfl)|(refine ZCj (R:=ZN) (_gR:=inferInstance) ZCF hk rfl (OpD.t rfl) (OpD.t rfl))|(apply SY.call (c5) Tryz.call53;(exact aD))|((first|apply SY.move|apply SY.assign|apply SY.lss|apply SY.neq|apply SY.not) <;> (exact oD))|(apply SY.len;(exact oD);(exact nD);(exact uD))|fail);all_goals infer_instance))));dsimp only [ZC,z0,z1])|(apply ZB;(exact oD);all_goals (intro h;try exact xD))|(apply ZG;(exact oD);all_goals (intro h;try exact xD))|refine WC.skip ?_|refine WC.ret ?_|refine WC.block ?_|refine ThenD.r ?_|refine InBlockD.r ?_));all_goals (first|((repeat clear hK);(repeat clear Kx))))
     all_goals try (exfalso;omega)
     (refine ⟨trivial,_,rfl,?_⟩;exact fD)
    ·rw [if_neg q1] at k2
     rw [show Z5 C[k]=0 by omega] at c5
     by_cases q2:ZA8 c C[k]=true
     ·rw [if_neg (by rw [q2];decide)] at k2
      rw [q2] at c6
      ((repeat' (first|((first|apply WL.opN|apply WD.opN);exact yF;dsimp only [ZC,z0,z1])|refine WL.nil ?_|refine WD.nil ?_|refine ZA fun Kx hK=>?_|(refine hK _ _ ?_;clear hK)|refine WC.region ?_|(apply WC.draw;kernel_rfl;kernel_rfl)|((first|apply ZF|apply WD.op);(focus (first|exact wN|(apply SYG.yes;(exact wY);((first|(exact ZP ZCN (OpD.t rfl) ZA2 rfl rfl)|(refine ZCj (R:=ZN) (_gR:=inferInstance) ZCF hk rfl (OpD.t rfl) (OpD.t rfl))|(exact ZBD (OpD.t rfl))|(apply SY.call (c5) Tryz.call53;(exact aD))|(apply SY.call (c6) Tryz.call95;(exact aD))|((first|apply SY.move|apply SY.assign|apply SY.lss|apply SY.neq|apply SY.not) <;> (exact oD))|((first|apply SY.add) <;> first|exact oD|omega)|(apply SY.len;(exact oD);(exact nD);(exact uD))|fail);all_goals infer_instance))));dsimp only [ZC,z0,z1])|(apply ZQ;(exact oD);(with_reducible rfl))|(apply ZB;(exact oD);all_goals (intro h;try exact xD))|(apply ZG;(exact oD);all_goals (intro h;try exact xD))|refine WC.skip ?_|refine WC.block ?_|refine ThenD.n ?_));all_goals (first|((repeat clear hK);(repeat clear Kx))))
      all_goals try (exfalso;omega)
      (refine ⟨k+1,?_,by first|omega|(simp only;omega),rfl,?_⟩;rotate_left;((try dsimp only [ZK,z0,z1]);repeat (first|exact LeF.nil|refine ZD (k:=?_)));(try dsimp only))
      exact ⟨by omega,k2⟩
     ·have q3:ZA8 c C[k]=false:=by simpa using q2
      rw [if_pos q3] at k2
      rw [q3] at c6
      rw [ZF6 h1' h2' h3' k2 (by decide)]
      ((repeat' (first|((first|apply WL.opN|apply WD.opN);exact yF;dsimp only [ZC,z0,z1])|refine WL.nil ?_|refine WD.nil ?_|refine ZA fun Kx hK=>?_|(refine hK _ _ ?_;clear hK)|refine WC.region ?_|(apply WC.draw;kernel_rfl;kernel_rfl)|((first|apply ZF|apply WD.op);(focus (first|exact wN|(apply SYG.yes;(exact wY);((first|(exact ZP ZCN (OpD.t rfl) ZA2 rfl rfl)|(refine ZCj (R:=ZN) (_gR:=inferInstance) ZCF hk rfl (OpD.t rfl) (OpD.t rfl))|(apply SY.call (c5) Tryz.call53;(exact aD))|(apply SY.call (c6) Tryz.call95;(exact aD))|((first|apply SY.move|apply SY.assign|apply SY.lss|apply SY.neq|apply SY.not) <;> (exact oD))|(apply SY.len;(exact oD);(exact nD);(exact uD))|fail);all_goals infer_instance))));dsimp only [ZC,z0,z1])|(apply ZB;(exact oD);all_goals (intro h;try exact xD))|(apply ZG;(exact oD);all_goals (intro h;try exact xD))|(apply ZM;(exact oD);all_goals (intro h;try exact xD))|refine WC.skip ?_|refine WC.ret ?_|refine WC.block ?_|refine ThenD.r ?_|refine InBlockD.r ?_));all_goals (first|((repeat clear hK);(repeat clear Kx))))
      all_goals try (exfalso;omega)
      (refine ⟨trivial,_,rfl,?_⟩;exact fD)
   ·rw [List.drop_of_length_le (by omega)] at k2
    have hC8:∀ s∈C,s.length≤8:=fun s hs=>(Ze.1 (ZF5 (show ZLL c C=0 from k2) s hs).1).2.1
    have hend:=ZLN (p:=okR c V C) h1' h2' h3' k2
    clear k2 c1 c2 c3 c4
    (repeat' (first|((first|apply WL.opN|apply WD.opN);exact yF;dsimp only [ZC,z0,z1])|refine WL.nil ?_|refine ZA fun Kx hK=>?_|(refine hK _ _ ?_;clear hK)|(refine Kont.skip ?_;clear hK)|refine WC.region ?_|((first|apply ZF|apply WD.op);(focus (first|exact wN|(apply SYG.yes;(exact wY);((first|(exact ZP ZCN (OpD.t rfl) ZA2 rfl rfl)|((first|apply SY.move|apply SY.assign|apply SY.lss|apply SY.neq|apply SY.not) <;> (exact oD))|(apply SY.len;(exact oD);(exact nD);(exact uD))|fail);all_goals infer_instance))));dsimp only [ZC,z0,z1])|(apply ZB;(exact oD);all_goals (intro h;try exact xD))|refine WC.exit ?_|refine WC.block ?_))
    all_goals try (exfalso;omega)
    (refine WC.loopU (X:=Nat) (fun j=>[(9,dI (j:Int)),(4,dA),(61,dA),(62,dA),(63,dA),(64,dA),(65,dA),(66,dA),(67,dA),(68,dA),(69,dA),(70,dA),(71,dA),(72,dA),(73,dA),(74,dA),(75,dA),(76,dA),(77,dA),(78,dA),(79,dA)]) (fun j=>[]) (fun j=>F.length-j) (fun j=>j≤F.length/\F.all (okR c V C)=(F.drop j).all (okR c V C)) 0 ?start ?frame0 ?objs0 ?round)
    case start=>exact ⟨Nat.zero_le _,rfl⟩
    case frame0=>((try dsimp only [ZK,z0,z1]);repeat (first|exact LeF.nil|refine ZD (k:=?_)))
    case objs0=>rfl
    case round =>
     rintro j ⟨j1,j2⟩
     dsimp only [ZK,z0,z1]
     by_cases hj:j<F.length
     ·have c5:=ZSO F V C F[j] h34 hC8 hV
      have c6:=ZJ3 c (unR V C F[j])
      rw [ZNW hj] at j2
      by_cases q:ZA8 c (unR V C F[j])=true
      ·rw [show okR c V C F[j]=true from q,Bool.true_and] at j2
       rw [q] at c6
       ((repeat' (first|((first|apply WL.opN|apply WD.opN);exact yF;dsimp only [ZC,z0,z1])|refine WL.nil ?_|refine WD.nil ?_|refine ZA fun Kx hK=>?_|(refine hK _ _ ?_;clear hK)|refine WC.region ?_|(apply WC.draw;kernel_rfl;kernel_rfl)|((first|apply ZF|apply WD.op);(focus (first|exact wN|(apply SYG.yes;(exact wY);((first|(exact ZP ZCN (OpD.t rfl) ZA2 rfl rfl)|(exact ZHn ZUB (Nat.le_refl 1) (OpD.t rfl))|(refine ZCj (R:=ZN) (_gR:=inferInstance) ZCF hj rfl (OpD.t rfl) (OpD.t rfl))|(apply SY.load;exact ZMM;exact OpD.t rfl)|(exact ZBD (OpD.t rfl))|(apply SY.call (c5) Tryz.call96;(exact aD))|(apply SY.call (c6) Tryz.call95;(exact aD))|((first|apply SY.move|apply SY.assign|apply SY.lss|apply SY.neq|apply SY.not) <;> (exact oD))|((first|apply SY.add) <;> first|exact oD|omega)|(apply SY.len;(exact oD);(exact nD);(exact uD))|fail);all_goals infer_instance))));dsimp only [ZC,z0,z1])|(apply ZQ;(exact oD);(with_reducible rfl))|(apply ZB;(exact oD);all_goals (intro h;try exact xD))|refine WC.skip ?_|refine WC.block ?_|refine ThenD.n ?_));all_goals (first|((repeat clear hK);(repeat clear Kx))))
       all_goals try (exfalso;omega)
       (refine ⟨j+1,?_,by first|omega|(simp only;omega),rfl,?_⟩;rotate_left;((try dsimp only [ZK,z0,z1]);repeat (first|exact LeF.nil|refine ZD (k:=?_)));(try dsimp only))
       exact ⟨by omega,j2⟩
      ·have q0:ZA8 c (unR V C F[j])=false:=by simpa using q
       rw [show okR c V C F[j]=false from q0,Bool.false_and] at j2
       rw [q0] at c6
       have hE:ZBi (okR c V C) c F V C=22:=by rw [hend,if_neg (by rw [j2];decide)]
       ((repeat' (first|((first|apply WL.opN|apply WD.opN);exact yF;dsimp only [ZC,z0,z1])|refine WL.nil ?_|refine WD.nil ?_|refine ZA fun Kx hK=>?_|(refine hK _ _ ?_;clear hK)|refine WC.region ?_|(apply WC.draw;kernel_rfl;kernel_rfl)|((first|apply ZF|apply WD.op);(focus (first|exact wN|(apply SYG.yes;(exact wY);((first|(exact ZP ZCN (OpD.t rfl) ZA2 rfl rfl)|(exact ZHn ZUB (Nat.le_refl 1) (OpD.t rfl))|(refine ZCj (R:=ZN) (_gR:=inferInstance) ZCF hj rfl (OpD.t rfl) (OpD.t rfl))|(apply SY.load;exact ZMM;exact OpD.t rfl)|(apply SY.call (c5) Tryz.call96;(exact aD))|(apply SY.call (c6) Tryz.call95;(exact aD))|((first|apply SY.move|apply SY.assign|apply SY.lss|apply SY.neq|apply SY.not) <;> (exact oD))|(apply SY.len;(exact oD);(exact nD);(exact uD))|fail);all_goals infer_instance))));dsimp only [ZC,z0,z1])|(apply ZB;(exact oD);all_goals (intro h;try exact xD))|(apply ZM;(exact oD);all_goals (intro h;try exact xD))|refine WC.skip ?_|refine WC.ret ?_|refine WC.block ?_|refine ThenD.r ?_|refine InBlockD.r ?_));all_goals (first|((repeat clear hK);(repeat clear Kx))))
       all_goals try (exfalso;omega)
       (refine ⟨trivial,_,rfl,?_⟩;refine FinD.i ?_)
       exact hE.symm
     ·rw [List.drop_of_length_le (by omega)] at j2
      have hE:ZBi (okR c V C) c F V C=0:=by rw [hend,if_pos (by rw [j2];rfl)]
      ((repeat' (first|((first|apply WL.opN|apply WD.opN);exact yF;dsimp only [ZC,z0,z1])|refine WL.nil ?_|refine ZA fun Kx hK=>?_|(refine hK _ _ ?_;clear hK)|(refine Kont.skip ?_;clear hK)|refine WC.region ?_|((first|apply ZF|apply WD.op);(focus (first|exact wN|(apply SYG.yes;(exact wY);((first|(exact ZP ZCN (OpD.t rfl) ZA2 rfl rfl)|(exact ZHn ZUB (Nat.le_refl 1) (OpD.t rfl))|((first|apply SY.move|apply SY.assign|apply SY.lss|apply SY.neq|apply SY.not) <;> (exact oD))|(apply SY.len;(exact oD);(exact nD);(exact uD))|fail);all_goals infer_instance))));dsimp only [ZC,z0,z1])|(apply ZB;(exact oD);all_goals (intro h;try exact xD))|refine WC.ret ?_|refine WC.exit ?_));all_goals (first|((repeat clear hK);(repeat clear Kx))))
      all_goals try (exfalso;omega)
      (refine ⟨trivial,_,rfl,?_⟩;refine FinD.i ?_)
      exact hE.symm
 ·rw [show ZBi (okR c V C) c F V C=15 by unfold ZBi;rw [if_neg h1,if_neg h2,if_pos h3]]
  ((repeat' (first|((first|apply WL.opN|apply WD.opN);exact yF;dsimp only [ZC,z0,z1])|refine WL.nil ?_|refine WD.nil ?_|refine ZA fun Kx hK=>?_|(refine hK _ _ ?_;clear hK)|refine WC.region ?_|(apply WC.draw;kernel_rfl;kernel_rfl)|((first|apply ZF|apply WD.op);(focus (first|exact wN|(apply SYG.yes;(exact wY);((first|(exact SY.box (OpD.t rfl) ZAR)|(exact ZP ZCN (OpD.t rfl) ZA2 rfl rfl)|(exact ZAb tyC (OpD.t rfl))|(apply SY.call (c1) Tryz.call48;exact ArgsD.cons (OpD.t rfl) (ArgsD.nil))|(apply SY.call (c2) Tryz.call48;exact ArgsD.cons (OpD.t rfl) (ArgsD.nil))|(apply SY.call (c3) Tryz.call88;(exact aD))|(apply SY.call (c4) Tryz.call38;(exact aD))|((first|apply SY.move|apply SY.assign|apply SY.lss|apply SY.neq|apply SY.not) <;> (exact oD))|(apply SY.load;(exact tD);(exact oD))|(apply SY.len;(exact oD);(exact nD);(exact uD))|(apply ZY;(exact oD);(with_reducible rfl);(exact oD))|(apply ZX;(exact oD);(with_reducible rfl);(exact oD))|(apply SY.box;(exact oD);(exact hD))|fail);all_goals infer_instance))));dsimp only [ZC,z0,z1])|((first|refine ZJ rfl rfl rfl (fun h=>?_) (fun h=>?_)|refine ZI rfl rfl rfl (fun h=>?_) (fun h=>?_)|refine ZH rfl rfl rfl (fun h=>?_) (fun h=>?_)|refine ZT rfl rfl rfl (fun h=>?_) (fun h=>?_)|refine ZS rfl rfl rfl (fun h=>?_) (fun h=>?_)|refine ZR rfl rfl rfl (fun h=>?_) (fun h=>?_)) <;> (first|(exfalso;first|omega|contradiction)|(dsimp only [z0,z1])))|(apply Zb;(exact oD);(with_reducible rfl))|(apply ZG;(exact oD);all_goals (intro h;try exact xD))|refine WC.skip ?_|refine WC.ret ?_|refine WC.block ?_|refine ThenD.r ?_));all_goals (first|refine WC.id ?_|((repeat clear hK);(repeat clear Kx))))
  all_goals first|((refine ⟨trivial,_,rfl,?_⟩;exact fD);done)|(exfalso;exact h3 ⟨hcl.1 (by assumption),by omega⟩)
end
end Go.Proofs.YtofkoleingbbpaaGreatDoor
