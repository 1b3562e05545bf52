/- Part 32: walks by contracts, and plain laws. -/
import Derived.Shelf.Strconv.AppendIntPublic10
import Derived.Test.YtofkoleingbbpaaGreatDoorVx31
set_option linter.unusedVariables false
set_option linter.unusedSimpArgs false
set_option linter.unusedSectionVars false
set_option maxRecDepth 100000
set_option maxHeartbeats 4000000
namespace Go.Proofs.YtofkoleingbbpaaGreatDoor
section
open Go.RowKit

def isRb (f:Vx->Int) (s:List Vx):Bool:=decide (orL f s=((2 ^ s.length-1:Nat):Int))
set_option maxHeartbeats 4000000 in
theorem ZPT (vs:List Vx) (A:List Int) (s:List Vx) (hA:A.length=vs.length) (hl:vs.length≤1000000) (h8:s.length≤8):Fn Tryz.prog 50 [dS Lab (vs,A),dS ZJ s] (dB (isRb (Zl vs A) s)):=by
 unfold isRb
 have hp:=pow9 ⟨s.length,by omega⟩
 simp only at hp
 have h1:1≤2 ^ s.length:=Nat.one_le_two_pow
 have e1:((2 ^ s.length-1:Nat):Int)=((2 ^ s.length:Nat):Int)-1:=by omega
 rw [e1]
 obtain ⟨N,hN⟩:∃ N,2 ^ s.length=N:=⟨_,rfl⟩
 rw [hN] at hp ⊢
 have ht:=ZRx vs A s hA hl
 (refine ZE Tryz.func50 rfl rfl ?_;simp only [Tryz.ntmps50,List.length_cons,List.length_nil,Nat.reduceAdd,Nat.reduceSub,List.replicate_succ,List.replicate_zero,List.cons_append,List.nil_append])
 ((repeat' (first|((first|apply WL.opN|apply WD.opN);exact yF;dsimp only [ZB,z0,z1])|refine WL.nil ?_|refine WD.nil ?_|refine ZA fun Kx hK=>?_|(refine hK _ _ ?_;clear hK)|refine WC.region ?_|(apply WC.draw;kernel_rfl;kernel_rfl)|((first|apply WL.opN|apply WD.opN);(focus ((first|(apply SY.load;exact ZBq;exact OpD.t rfl)|(apply SY.call (ht) Tryz.call90;(exact aD))|(refine hN ▸ ZGa h8 OpD.i (OpD.t rfl))|((first|apply SY.move|apply SY.assign|apply SY.eql) <;> (exact oD))|((first|apply SY.sub) <;> first|exact oD|omega)|(apply SY.len;(exact oD);(exact nD);(exact uD))|(apply SY.box;(exact oD);(exact hD))|fail);all_goals infer_instance));dsimp only [ZB,z0,z1])|refine WC.ret ?_));all_goals (first|((repeat clear hK);(repeat clear Kx))))
 all_goals try (exfalso;first|contradiction|omega)
 (refine ⟨trivial,_,rfl,?_⟩;exact fD)
set_option maxHeartbeats 8000000 in
theorem ZIb (l:Cx) (vs:List Vx) (A:List Int) (hll:l.length≤100):Fn Tryz.prog 16 [dS Cpx l,dS Lab (vs,A)] (dT [dS Zv (ZFq l vs A).1,dI (ZFq l vs A).2]):=by
 have c1:=ZRC l
 have c2:=ZEq vs A
 obtain ⟨o,ho⟩:∃ o,ZFq l vs A=o:=⟨_,rfl⟩
 rw [ho]
 unfold ZFq at ho
 (refine Zq Tryz.func16 rfl rfl ?_;simp only [Tryz.ntmps16,List.length_cons,List.length_nil,Nat.reduceAdd,Nat.reduceSub,List.replicate_succ,List.replicate_zero,List.cons_append,List.nil_append])
 by_cases h1:ZAy l≠0
 ·rw [if_pos h1] at ho;subst ho
  ((repeat' (first|((first|apply WL.opN|apply WD.opN);exact yF;dsimp only [ZB,z0,z1])|refine WL.nil ?_|refine ZA fun Kx hK=>?_|(refine hK _ _ ?_;clear hK)|refine WC.region ?_|((first|apply WL.opN|apply WD.opN);(focus ((first|(apply SY.call (c1) Tryz.call48;(exact aD))|((first|apply SY.move|apply SY.assign|apply SY.lss|apply SY.neq|apply SY.not) <;> (exact oD))|(apply SY.box;(exact oD);(exact hD))|fail);all_goals infer_instance));dsimp only [ZB,z0,z1])|(apply ZG;(exact oD);all_goals (intro h;try exact xD))|refine WC.ret ?_|refine ThenD.r ?_));all_goals (first|((repeat clear hK);(repeat clear Kx))))
  all_goals try (exfalso;first|contradiction|omega)
  (refine ⟨trivial,⟨_,rfl,?_⟩,_,rfl,?_⟩ <;> exact fD)
 rw [if_neg h1] at ho
 have h1':ZAy l=0:=Classical.byContradiction h1
 rw [h1'] at c1
 by_cases h2:ZAa vs A≠0
 ·rw [if_pos h2] at ho;subst ho
  ((repeat' (first|((first|apply WL.opN|apply WD.opN);exact yF;dsimp only [ZB,z0,z1])|refine WL.nil ?_|refine ZA fun Kx hK=>?_|(refine hK _ _ ?_;clear hK)|refine WC.region ?_|((first|apply WL.opN|apply WD.opN);(focus ((first|(apply SY.call (c1) Tryz.call48;(exact aD))|(apply SY.call (c2) Tryz.call14;(exact aD))|(apply SY.load;exact ZBq;exact OpD.t rfl)|((first|apply SY.move|apply SY.assign|apply SY.lss|apply SY.neq|apply SY.not) <;> (exact oD))|(apply SY.box;(exact oD);(exact hD))|fail);all_goals infer_instance));dsimp only [ZB,z0,z1])|(apply ZG;(exact oD);all_goals (intro h;try exact xD))|refine WC.skip ?_|refine WC.ret ?_|refine ThenD.r ?_));all_goals (first|((repeat clear hK);(repeat clear Kx))))
  all_goals try (exfalso;first|contradiction|omega)
  (refine ⟨trivial,⟨_,rfl,?_⟩,_,rfl,?_⟩ <;> exact fD)
 rw [if_neg h2] at ho
 have h2':ZAa vs A=0:=Classical.byContradiction h2
 rw [h2'] at c2
 obtain ⟨g1,g2,g3,g4,g5⟩:=ZBI h2'
 have h8:∀ s∈l,s.length≤8:=fun s hs=>(ZAT.1 h1').short s hs
 have c3:=ZKv l vs A g2 (by omega) h8 hll
 have c4:=ZEW vs A (by omega)
 rw [<- ZNx g5] at c4
 by_cases h3:ZI7 l (Zl vs A)=false
 ·rw [if_pos h3] at ho;subst ho
  rw [h3] at c3
  ((repeat' (first|((first|apply WL.opN|apply WD.opN);exact yF;dsimp only [ZB,z0,z1])|refine WL.nil ?_|refine ZA fun Kx hK=>?_|(refine hK _ _ ?_;clear hK)|refine WC.region ?_|((first|apply WL.opN|apply WD.opN);(focus ((first|(apply SY.call (c1) Tryz.call48;(exact aD))|(apply SY.call (c2) Tryz.call14;(exact aD))|(apply SY.call (c3) Tryz.call49;(exact aD))|(apply SY.load;exact ZBq;exact OpD.t rfl)|((first|apply SY.move|apply SY.assign|apply SY.lss|apply SY.neq|apply SY.not) <;> (exact oD))|(apply SY.box;(exact oD);(exact hD))|fail);all_goals infer_instance));dsimp only [ZB,z0,z1])|(apply ZG;(exact oD);all_goals (intro h;try exact xD))|(apply ZO;(exact oD);all_goals (intro h;try exact xD))|refine WC.skip ?_|refine WC.ret ?_|refine ThenD.r ?_));all_goals (first|((repeat clear hK);(repeat clear Kx))))
  all_goals try (exfalso;first|contradiction|omega)
  (refine ⟨trivial,⟨_,rfl,?_⟩,_,rfl,?_⟩ <;> exact fD)
 rw [if_neg h3] at ho
 rw [show ZI7 l (Zl vs A)=true by simpa using h3] at c3
 by_cases h4:ZLc A=false
 ·rw [if_pos h4] at ho;subst ho
  rw [h4] at c4
  ((repeat' (first|((first|apply WL.opN|apply WD.opN);exact yF;dsimp only [ZB,z0,z1])|refine WL.nil ?_|refine ZA fun Kx hK=>?_|(refine hK _ _ ?_;clear hK)|refine WC.region ?_|((first|apply WL.opN|apply WD.opN);(focus ((first|(apply SY.call (c1) Tryz.call48;(exact aD))|(apply SY.call (c2) Tryz.call14;(exact aD))|(apply SY.call (c3) Tryz.call49;(exact aD))|(apply SY.call (c4) Tryz.call37;(exact aD))|(apply SY.load;exact ZBq;exact OpD.t rfl)|((first|apply SY.move|apply SY.assign|apply SY.lss|apply SY.neq|apply SY.not) <;> (exact oD))|(apply SY.box;(exact oD);(exact hD))|fail);all_goals infer_instance));dsimp only [ZB,z0,z1])|(apply ZG;(exact oD);all_goals (intro h;try exact xD))|(apply ZO;(exact oD);all_goals (intro h;try exact xD))|refine WC.skip ?_|refine WC.ret ?_|refine ThenD.r ?_));all_goals (first|((repeat clear hK);(repeat clear Kx))))
  all_goals try (exfalso;first|contradiction|omega)
  (refine ⟨trivial,⟨_,rfl,?_⟩,_,rfl,?_⟩ <;> exact fD)
 rw [if_neg h4] at ho;subst ho
 rw [show ZLc A=true by simpa using h4] at c4
 refine ZAH 22 ZJ ?_
 (repeat' (first|((first|apply WL.opN|apply WD.opN);exact yF;dsimp only [ZB,z0,z1])|refine WL.nil ?_|refine ZA fun Kx hK=>?_|(refine hK _ _ ?_;clear hK)|refine WC.region ?_|((first|apply WL.opN|apply WD.opN);(focus ((first|(apply SY.call (c1) Tryz.call48;(exact aD))|(apply SY.call (c2) Tryz.call14;(exact aD))|(apply SY.call (c3) Tryz.call49;(exact aD))|(apply SY.call (c4) Tryz.call37;(exact aD))|(apply SY.load;exact ZBq;exact OpD.t rfl)|((first|apply SY.move|apply SY.assign|apply SY.lss|apply SY.neq|apply SY.not) <;> (exact oD))|(apply SY.box;(exact oD);(exact hD))|fail);all_goals infer_instance));dsimp only [ZB,z0,z1])|(apply ZG;(exact oD);all_goals (intro h;try exact xD))|(apply ZO;(exact oD);all_goals (intro h;try exact xD))|refine WC.skip ?_|refine WC.block ?_))
 all_goals try (exfalso;first|contradiction|omega)
 (refine WC.loopU (X:=Nat × Value) (fun x=>[(9,dI (x.1:Int)),(8,dX x.2),(27,dA),(28,dA),(29,dA),(30,dA),(31,dA),(32,dA),(33,dA),(34,dA),(35,dA),(36,dA),(37,dA),(38,dA),(39,dA),(40,dA),(41,dA),(42,dA),(43,dA),(44,dA),(45,dA),(46,dA),(47,dA),(48,dA)]) (fun x=>([Zn x.2 22 ZJ (ZLb (l.take x.1) (Zl vs A))])) (fun x=>l.length-x.1) (fun x=>x.1≤l.length) (0,.slice none 0 0) ?start ?frame0 ?objs0 ?round)
 case start=>exact Nat.zero_le _
 case frame0=>((try dsimp only [ZK,z0,z1]);repeat (first|exact LeF.nil|refine ZD (k:=?_)))
 case objs0=>rfl
 case round =>
  rintro ⟨j,v⟩ h5
  simp only at h5
  dsimp only [ZK,z0,z1]
  by_cases hj:j<l.length
  ·have hjI:(j:Int)<(l.length:Int):=by omega
   have hsn:=ZFW (f:=Zl vs A) hj
   have hrl:(ZLb (l.take j) (Zl vs A)).length≤100:=by
    unfold ZLb
    have:=List.length_filter_le (fun s=>decide (orL (Zl vs A) s=((2 ^ s.length-1:Nat):Int))) (l.take j)
    rw [List.length_take] at this
    omega
   have h24:((ZLb (l.take j) (Zl vs A)).length+1)*24≤140737488355328:=by omega
   have c5:=ZPT vs A l[j] g2 (by omega) (h8 _ (List.getElem_mem hj))
   unfold isRb at c5
   by_cases hq:orL (Zl vs A) l[j]=((2 ^ l[j].length-1:Nat):Int)
   ·rw [if_pos hq] at hsn
    rw [decide_eq_true hq] at c5
    ((repeat' (first|((first|apply WL.opN|apply WD.opN);exact yF;dsimp only [ZB,z0,z1])|refine WL.nil ?_|refine WD.nil ?_|refine ZA fun Kx hK=>?_|(refine hK _ _ ?_;clear hK)|refine WC.region ?_|(apply WC.draw;kernel_rfl;kernel_rfl)|((first|apply ZAp|apply Z6);(exact eD);exact OpD.t rfl;(exact oD);(intro _;exact hD);(exact (by simp));(exact (by simp));(first|exact ⟨by decide,by decide⟩|skip);decide;(exact lD);(intro _;dsimp only [ZB,z0,z1]);all_goals (try infer_instance))|((first|apply WL.opN|apply WD.opN);(focus ((first|(apply SY.load;exact ZBq;exact OpD.t rfl)|(apply SY.call (c5) Tryz.call50;(exact aD))|((first|apply SY.move|apply SY.assign|apply SY.lss|apply SY.neq|apply SY.not) <;> (exact oD))|((first|apply SY.add) <;> first|exact oD|omega)|(apply SY.len;(exact oD);(exact nD);(exact uD))|(apply SY.ix;(exact eD);(exact oD);(exact oD);exact kD)|(apply ZBy ZI8;exact OpD.t rfl)|fail);all_goals infer_instance));dsimp only [ZB,z0,z1])|(apply Z1;(exact oD);(with_reducible rfl))|(apply ZC;(exact oD);all_goals (intro h;try exact xD))|refine WC.skip ?_|refine WC.block ?_|refine ThenD.n ?_));all_goals (first|((repeat clear hK);(repeat clear Kx))))
    all_goals try (exfalso;first|contradiction|omega)
    rw [<- hsn]
    (refine ⟨(j+1,_),?_,by first|omega|(simp only;omega),rfl,?_⟩;rotate_left;((try dsimp only [ZK,z0,z1]);repeat (first|exact LeF.nil|refine ZD (k:=?_)));(try dsimp only))
    exact hj
   ·rw [if_neg hq,List.append_nil] at hsn
    rw [decide_eq_false hq] at c5
    ((repeat' (first|((first|apply WL.opN|apply WD.opN);exact yF;dsimp only [ZB,z0,z1])|refine WL.nil ?_|refine WD.nil ?_|refine ZA fun Kx hK=>?_|(refine hK _ _ ?_;clear hK)|refine WC.region ?_|(apply WC.draw;kernel_rfl;kernel_rfl)|((first|apply WL.opN|apply WD.opN);(focus ((first|(apply SY.load;exact ZBq;exact OpD.t rfl)|(apply SY.call (c5) Tryz.call50;(exact aD))|((first|apply SY.move|apply SY.assign|apply SY.lss|apply SY.neq|apply SY.not) <;> (exact oD))|((first|apply SY.add) <;> first|exact oD|omega)|(apply SY.len;(exact oD);(exact nD);(exact uD))|(apply SY.ix;(exact eD);(exact oD);(exact oD);exact kD)|(apply ZBy ZI8;exact OpD.t rfl)|fail);all_goals infer_instance));dsimp only [ZB,z0,z1])|(apply ZY;(exact oD);(with_reducible rfl))|(apply ZC;(exact oD);all_goals (intro h;try exact xD))|refine WC.skip ?_|refine WC.block ?_|refine ThenD.n ?_));all_goals (first|((repeat clear hK);(repeat clear Kx))))
    all_goals try (exfalso;first|contradiction|omega)
    rw [<- hsn]
    (refine ⟨(j+1,v),?_,by first|omega|(simp only;omega),rfl,?_⟩;rotate_left;((try dsimp only [ZK,z0,z1]);repeat (first|exact LeF.nil|refine ZD (k:=?_)));(try dsimp only))
    exact hj
  ·have hjI:¬ (j:Int)<(l.length:Int):=by omega
   obtain rfl:j=l.length:=by omega
   rw [List.take_length]
   ((repeat' (first|((first|apply WL.opN|apply WD.opN);exact yF;dsimp only [ZB,z0,z1])|refine WL.nil ?_|refine ZA fun Kx hK=>?_|(refine hK _ _ ?_;clear hK)|(refine Kont.skip ?_;clear hK)|refine WC.region ?_|((first|apply WL.opN|apply WD.opN);(focus ((first|((first|apply SY.move|apply SY.assign|apply SY.lss|apply SY.neq|apply SY.not) <;> (exact oD))|(apply SY.len;(exact oD);(exact nD);(exact uD))|(apply ZBy ZI8;exact OpD.t rfl)|fail);all_goals infer_instance));dsimp only [ZB,z0,z1])|(apply ZC;(exact oD);all_goals (intro h;try exact xD))|refine WC.ret ?_|refine WC.exit ?_));all_goals (first|((repeat clear hK);(repeat clear Kx))))
   all_goals try (exfalso;first|contradiction|omega)
   (refine ⟨trivial,⟨_,rfl,?_⟩,_,rfl,?_⟩ <;> exact fD)
end
section
open Go.RowKit

def ZKz (vs:List Vx) (A:List Int):Bool:=decide (4096<vs.length) || (decide (vs.length≤40) && decide (A.length≤60))
set_option maxHeartbeats 4000000 in
theorem ZRO (vs:List Vx) (A:List Int):Fn Tryz.prog 31 [dS Lab (vs,A)] (dB (ZKz vs A)):=by
 obtain ⟨o,ho⟩:∃ o,ZKz vs A=o:=⟨_,rfl⟩
 rw [ho]
 unfold ZKz at ho
 (refine ZE Tryz.func31 rfl rfl ?_;simp only [Tryz.ntmps31,List.length_cons,List.length_nil,Nat.reduceAdd,Nat.reduceSub,List.replicate_succ,List.replicate_zero,List.cons_append,List.nil_append])
 by_cases h1:4096<vs.length
 ·have h1I:(vs.length:Int)>4096:=by omega
  rw [decide_eq_true h1,Bool.true_or] at ho
  subst ho
  ((repeat' (first|(apply WL.opN;exact yF;dsimp only [ZB,z0,z1])|refine WL.nil ?_|refine ZA fun Kx hK=>?_|(refine hK _ _ ?_;clear hK)|refine WC.region ?_ |  (apply ZF;(focus (apply SYG.no;exact ZEK rfl rfl rfl));dsimp only [ZB,z0,z1])|(apply ZF;(focus (first|exact wN|(apply SYG.yes;(exact wY);((first|(refine ZP ZAG (OpD.t rfl) Zp rfl rfl)|((first|apply SY.move|apply SY.assign|apply SY.leq|apply SY.gtr) <;> (exact oD))|(apply SY.len;(exact oD);(exact nD);(exact uD))|(apply Zh;(exact oD);(with_reducible rfl);(exact oD))|(apply SY.box;(exact oD);(exact hD))|fail);all_goals infer_instance))));dsimp only [ZB,z0,z1])|((first|refine ZN rfl rfl rfl (fun h=>?_) (fun h=>?_)|refine ZM rfl rfl rfl (fun h=>?_) (fun h=>?_)|refine ZL rfl rfl rfl (fun h=>?_) (fun h=>?_)) <;> (first|(exfalso;first|omega|contradiction)|(dsimp only [z0,z1])))|refine WC.ret ?_));all_goals (first|((repeat clear hK);(repeat clear Kx))))
  all_goals try (exfalso;first|contradiction|omega)
  (refine ⟨trivial,_,rfl,?_⟩;exact fD)
 ·have h1I:¬ (vs.length:Int)>4096:=by omega
  rw [decide_eq_false h1,Bool.false_or] at ho
  by_cases h2:vs.length≤40
  ·have h2I:(vs.length:Int)≤40:=by omega
   rw [decide_eq_true h2,Bool.true_and] at ho
   subst ho
   ((repeat' (first|(apply WL.opN;exact yF;dsimp only [ZB,z0,z1])|refine WL.nil ?_|refine ZA fun Kx hK=>?_|(refine hK _ _ ?_;clear hK)|refine WC.region ?_|(apply ZF;(focus (first|exact wN|(apply SYG.yes;(exact wY);((first|(refine ZP ZAG (OpD.t rfl) Zp rfl rfl)|(apply SY.load;exact ZDW;exact OpD.t rfl)|((first|apply SY.move|apply SY.assign|apply SY.leq|apply SY.gtr) <;> (exact oD))|(apply SY.load;(exact tD);(exact oD))|(apply SY.len;(exact oD);(exact nD);(exact uD))|(apply Zh;(exact oD);(with_reducible rfl);(exact oD))|(apply Ze;(exact oD);(with_reducible rfl);(exact oD))|(apply SY.box;(exact oD);(exact hD))|fail);all_goals infer_instance))));dsimp only [ZB,z0,z1])|((first|refine ZN rfl rfl rfl (fun h=>?_) (fun h=>?_)|refine ZM rfl rfl rfl (fun h=>?_) (fun h=>?_)|refine ZL rfl rfl rfl (fun h=>?_) (fun h=>?_)) <;> (first|(exfalso;first|omega|contradiction)|(dsimp only [z0,z1])))|refine WC.ret ?_));all_goals (first|((repeat clear hK);(repeat clear Kx))))
   all_goals try (exfalso;first|contradiction|omega)
   (refine ⟨trivial,_,rfl,?_⟩;refine FinD.b ?_)
   by_cases h3:A.length≤60
   ·rw [decide_eq_true h3,decide_eq_true (by omega)]
   ·rw [decide_eq_false h3,decide_eq_false (by omega)]
  ·have h2I:¬ (vs.length:Int)≤40:=by omega
   rw [decide_eq_false h2,Bool.false_and] at ho
   subst ho
   ((repeat' (first|(apply WL.opN;exact yF;dsimp only [ZB,z0,z1])|refine WL.nil ?_|refine ZA fun Kx hK=>?_|(refine hK _ _ ?_;clear hK)|refine WC.region ?_|(apply ZF;(focus (first|exact wN|(apply SYG.yes;(exact wY);((first|(refine ZP ZAG (OpD.t rfl) Zp rfl rfl)|((first|apply SY.move|apply SY.assign|apply SY.leq|apply SY.gtr) <;> (exact oD))|(apply SY.load;(exact tD);(exact oD))|(apply SY.len;(exact oD);(exact nD);(exact uD))|(apply Ze;(exact oD);(with_reducible rfl);(exact oD))|(apply SY.box;(exact oD);(exact hD))|fail);all_goals infer_instance))));dsimp only [ZB,z0,z1])|((first|refine ZN rfl rfl rfl (fun h=>?_) (fun h=>?_)|refine ZM rfl rfl rfl (fun h=>?_) (fun h=>?_)|refine ZL rfl rfl rfl (fun h=>?_) (fun h=>?_)) <;> (first|(exfalso;first|omega|contradiction)|(dsimp only [z0,z1])))|refine WC.ret ?_));all_goals (first|((repeat clear hK);(repeat clear Kx))))
   all_goals try (exfalso;first|contradiction|omega)
   (refine ⟨trivial,_,rfl,?_⟩;exact fD)
end
section
open Go.RowKit

abbrev ZLf:Rel (List Cx):=Arr Zv
theorem ZCE:ElT Tryz.prog 54 27 1 (.slice none 0 0) 24 false:=⟨Tryz.underlying54,by kernel_rfl,Tryz.isAgg27,rfl⟩
abbrev dEqS:Dat:=ZIs Tryz.prog (fun l:Cx=>[dS Zv l,dS Zv l]) (fun _=>dB true)
set_option maxHeartbeats 4000000 in
theorem ZSa (a:List Cx):Fn Tryz.prog 66 [dS ZLf a,dS ZLf a,dEqS] (dB true):=by
 (refine ZE Tryz.func66 rfl rfl ?_;simp only [Tryz.ntmps66,List.length_cons,List.length_nil,Nat.reduceAdd,Nat.reduceSub,List.replicate_succ,List.replicate_zero,List.cons_append,List.nil_append])
 (first|refine ZQ (t:=0) rfl ZEX fun hl0=>?_|refine ZQ (t:=0) rfl ZD7 fun hl0=>?_|refine ZQ (t:=0) rfl ZLZ fun hl0=>?_);simp only [maxLen] at hl0
 (repeat' (first|(apply WL.opN;exact yF;dsimp only [ZB,z0,z1])|refine WL.nil ?_|refine ZA fun Kx hK=>?_|(refine hK _ _ ?_;clear hK)|refine WC.region ?_|(apply WL.opN;(focus ((first|(apply SY.len;exact OpD.t rfl;exact ZD8;exact ZCE.unt)|((first|apply SY.move|apply SY.assign|apply SY.lss|apply SY.neq|apply SY.not) <;> (exact oD))|fail);all_goals infer_instance));dsimp only [ZB,z0,z1])|(apply ZG;(exact oD);all_goals (intro h;try exact xD))|refine WC.skip ?_|refine WC.block ?_))
 all_goals try (exfalso;first|contradiction|omega)
 (refine WC.loopU (X:=Nat) (fun k=>[(17,dI (k:Int)),(6,dA),(7,dA),(8,dA),(9,dA),(18,dA),(19,dA),(20,dA),(21,dA),(22,dA),(23,dA),(24,dA),(25,dA),(26,dA),(27,dA),(28,dA),(29,dA),(30,dA),(31,dA)]) (fun k=>[]) (fun k=>a.length-k) (fun k=>k≤a.length) 0 ?start ?frame0 ?objs0 ?round)
 case start=>exact Nat.zero_le _
 case frame0=>((try dsimp only [ZK,z0,z1]);repeat (first|exact LeF.nil|refine ZD (k:=?_)))
 case objs0=>rfl
 case round =>
  rintro k hk
  dsimp only [ZK,z0,z1]
  by_cases hkl:k<a.length
  ·have hkI:(k:Int)<(a.length:Int):=by omega
   ((repeat' (first|(apply WL.opN;exact yF;dsimp only [ZB,z0,z1])|refine WL.nil ?_|refine ZA fun Kx hK=>?_|(refine hK _ _ ?_;clear hK)|refine WC.region ?_|(apply WL.opN;(focus ((first|(exact SY.ix (R:=Zv) (_gR:=inferInstance) (k:=k) ZCE (OpD.t rfl) (OpD.t rfl) hkl)|(apply ZAq (x:=a[k]);(exact OpD.t rfl);(exact aD))|((first|apply SY.move|apply SY.assign|apply SY.lss|apply SY.neq|apply SY.not) <;> (exact oD))|((first|apply SY.add) <;> first|exact oD|omega)|fail);all_goals infer_instance));dsimp only [ZB,z0,z1])|(apply ZC;(exact oD);all_goals (intro h;try exact xD))|(apply ZO;(exact oD);all_goals (intro h;try exact xD))|refine WC.skip ?_|refine WC.block ?_|refine ThenD.n ?_));all_goals (first|((repeat clear hK);(repeat clear Kx))))
   all_goals try (exfalso;first|contradiction|omega)
   (refine ⟨k+1,?_,by first|omega|(simp only;omega),rfl,?_⟩;rotate_left;((try dsimp only [ZK,z0,z1]);repeat (first|exact LeF.nil|refine ZD (k:=?_)));(try dsimp only))
   exact hkl
  ·have hkI:¬ (k:Int)<(a.length:Int):=by omega
   ((repeat' (first|(apply WL.opN;exact yF;dsimp only [ZB,z0,z1])|refine WL.nil ?_|refine ZA fun Kx hK=>?_|(refine hK _ _ ?_;clear hK)|(refine Kont.skip ?_;clear hK)|refine WC.region ?_|(apply WL.opN;(focus ((first|((first|apply SY.move|apply SY.assign|apply SY.lss|apply SY.neq|apply SY.not) <;> (exact oD))|fail);all_goals infer_instance));dsimp only [ZB,z0,z1])|(apply ZC;(exact oD);all_goals (intro h;try exact xD))|refine WC.ret ?_|refine WC.exit ?_));all_goals (first|((repeat clear hK);(repeat clear Kx))))
   all_goals try (exfalso;first|contradiction|omega)
   (refine ⟨trivial,_,rfl,?_⟩;exact fD)
theorem ZNt (a:List Cx):Fn Tryz.prog 25 [dS ZLf a,dS ZLf a] (dB true):=by
 have c1:=ZSa a
 (refine ZE Tryz.func25 rfl rfl ?_;simp only [Tryz.ntmps25,List.length_cons,List.length_nil,Nat.reduceAdd,Nat.reduceSub,List.replicate_succ,List.replicate_zero,List.cons_append,List.nil_append])
 ((repeat' (first|(apply WL.opN;exact yF;dsimp only [ZB,z0,z1])|refine WL.nil ?_|refine ZA fun Kx hK=>?_|(refine hK _ _ ?_;clear hK)|refine WC.region ?_|(apply WL.opN;(focus ((first|(apply SY.call c1 Tryz.call66;exact ArgsD.cons (OpD.t rfl) (ArgsD.cons (OpD.t rfl) (ArgsD.cons ⟨ZIN Tryz.call17 fun l=>ZFZ l⟩ ArgsD.nil)))|fail);all_goals infer_instance));dsimp only [ZB,z0,z1])|refine WC.ret ?_));all_goals (first|((repeat clear hK);(repeat clear Kx))))
 all_goals try (exfalso;first|contradiction|omega)
 (refine ⟨trivial,_,rfl,?_⟩;exact fD)
end
end Go.Proofs.YtofkoleingbbpaaGreatDoor
namespace Go.Proofs
section
open Go.Shelf
def Tryz.laysAI_ren:Go.Shelf.Ren:=⟨fun|176=>114|249=>144|288=>158|283=>165|284=>166|285=>167|286=>168|129=>178|317=>187|318=>188|319=>189|320=>190|337=>199|338=>200|n=>n,fun|37=>65|2=>2|3=>3|53=>207|4=>4|9=>9|171=>215|0=>0|173=>218|212=>236|51=>228|5=>5|20=>20|213=>237|46=>177|232=>249|233=>250|n=>n,fun|17=>0|18=>1|19=>2|n=>n⟩
theorem Tryz.laysAI:Go.Proofs.LaysM.n176 Tryz.prog Tryz.laysAI_ren:={
 mixed:=by kernel_rfl
 f129:=Tryz.func178.trans (congrArg some (by kernel_rfl))
 f176:=Tryz.func114.trans (congrArg some (by kernel_rfl))
 f249:=Tryz.func144.trans (congrArg some (by kernel_rfl))
 f283:=Tryz.func165.trans (congrArg some (by kernel_rfl))
 f284:=Tryz.func166.trans (congrArg some (by kernel_rfl))
 f285:=Tryz.func167.trans (congrArg some (by kernel_rfl))
 f286:=Tryz.func168.trans (congrArg some (by kernel_rfl))
 f288:=Tryz.func158.trans (congrArg some (by kernel_rfl))
 f317:=Tryz.func187.trans (congrArg some (by kernel_rfl))
 f318:=Tryz.func188.trans (congrArg some (by kernel_rfl))
 f319:=Tryz.func189.trans (congrArg some (by kernel_rfl))
 f320:=Tryz.func190.trans (congrArg some (by kernel_rfl))
 f337:=Tryz.func199.trans (congrArg some (by kernel_rfl))
 f338:=Tryz.func200.trans (congrArg some (by kernel_rfl))
 t0:=Tryz.underlying0
 a0:=Tryz.isAgg0
 z0:=Tryz.sizeOf0
 v0:=Tryz.zeroValue0
 t2:=Tryz.underlying2
 a2:=Tryz.isAgg2
 z2:=Tryz.sizeOf2
 v2:=Tryz.zeroValue2
 t3:=Tryz.underlying3
 a3:=Tryz.isAgg3
 z3:=Tryz.sizeOf3
 v3:=Tryz.zeroValue3
 t4:=Tryz.underlying4
 a4:=Tryz.isAgg4
 z4:=Tryz.sizeOf4
 v4:=Tryz.zeroValue4
 t5:=Tryz.underlying5
 a5:=Tryz.isAgg5
 z5:=Tryz.sizeOf5
 v5:=Tryz.zeroValue5
 t9:=Tryz.underlying9
 a9:=Tryz.isAgg9
 z9:=Tryz.sizeOf9
 v9:=Tryz.zeroValue9
 t20:=Tryz.underlying20
 a20:=Tryz.isAgg20
 z20:=Tryz.sizeOf20
 v20:=Tryz.zeroValue20
 t37:=Tryz.underlying65
 a37:=Tryz.isAgg65
 z37:=Tryz.sizeOf65
 v37:=Tryz.zeroValue65
 t46:=Tryz.underlying177
 a46:=Tryz.isAgg177
 z46:=Tryz.sizeOf177
 v46:=Tryz.zeroValue177
 t51:=Tryz.underlying228
 a51:=Tryz.isAgg228
 z51:=Tryz.sizeOf228
 v51:=Tryz.zeroValue228
 t53:=Tryz.underlying207
 a53:=Tryz.isAgg207
 z53:=Tryz.sizeOf207
 v53:=Tryz.zeroValue207
 t171:=Tryz.underlying215
 a171:=Tryz.isAgg215
 z171:=Tryz.sizeOf215
 v171:=Tryz.zeroValue215
 t173:=Tryz.underlying218
 a173:=Tryz.isAgg218
 z173:=Tryz.sizeOf218
 v173:=Tryz.zeroValue218
 t212:=Tryz.underlying236
 a212:=Tryz.isAgg236
 z212:=Tryz.sizeOf236
 v212:=Tryz.zeroValue236
 t213:=Tryz.underlying237
 a213:=Tryz.isAgg237
 z213:=Tryz.sizeOf237
 t232:=Tryz.underlying249
 a232:=Tryz.isAgg249
 z232:=Tryz.sizeOf249
 v232:=Tryz.zeroValue249
 t233:=Tryz.underlying250
 a233:=Tryz.isAgg250
 z233:=Tryz.sizeOf250
 v233:=Tryz.zeroValue250
 g17:=by kernel_rfl
 g18:=by kernel_rfl
 g19:=by kernel_rfl
 i0:=by kernel_rfl
 i2:=by kernel_rfl
 i3:=by kernel_rfl
 i4:=by kernel_rfl
 i5:=by kernel_rfl
 i9:=by kernel_rfl
 i20:=by kernel_rfl
 i37:=by kernel_rfl
 i46:=by kernel_rfl
 i51:=by kernel_rfl
 i53:=by kernel_rfl
 i171:=by kernel_rfl
 i173:=by kernel_rfl
 i212:=by kernel_rfl
 i232:=by kernel_rfl
 i233:=by kernel_rfl
 m17:=by kernel_rfl
 m18:=by kernel_rfl
 m19:=by kernel_rfl }
end
end Go.Proofs
namespace Go.Proofs.YtofkoleingbbpaaGreatDoor
section
open Go.Proofs Go.Shelf Go.RowKit Go.Sort Go.Lib
variable {P:Program} {ρ:Ren}
set_option maxHeartbeats 6400000 in
set_option maxRecDepth 100000 in
theorem ZGh (L:LaysM.n249 P ρ) (B n u:Nat) (hu:u<100) (sv:Value) (xs:List Value) (w:World) (hown:w.ownsRow B (ρ.t 5) 1 sv n xs) (hBw:B≤w.heap.size) (hlim:n+21≤140737488355328) :
  Calls P (ρ.f 249) #[sv,.int .i64 (u:Int),.int .i64 10] w fun e w'=>∃ v',e = .returned v'/\w'.ownsRow B (ρ.t 5) 1 v' (n+(Lib.itoa (u:Int)).length) (xs++Lib.byteCells (Lib.itoa (u:Int)))/\Below B w w'/\Lib.OthersKept (ρ.t 5) none w w':=by
 have mixed:=L.mixed
 have t5:=L.t5;have a5:=L.a5;have z5:=L.z5;have v5:=L.v5
 have t37:=L.t37;have u37:=run_underlying L.t37;have a37:=L.a37;have z37:=L.z37;have v37:=L.v37
 have t2:=L.t2;have a2:=L.a2;have z2:=L.z2;have v2:=L.v2
 have t3:=L.t3;have a3:=L.a3;have z3:=L.z3;have v3:=L.v3
 have t53:=L.t53;have a53:=L.a53;have z53:=L.z53;have v53:=L.v53
 have t4:=L.t4;have a4:=L.a4;have z4:=L.z4;have v4:=L.v4
 have e288:∀ args w,(callFunc (ρ.f 288) args).run P w = .ok (.enter (ρ.f 288) args) w:=enters_of L.f288 (by kernel_rfl) rfl
 have hneg:¬ (u:Int)<0:=by omega
 have hu64:u<18446744073709551616:=by omega
 rw [Lib.itoa_nonneg]
 go_enter L.f249,Body.n249_ntmps ρ
 go_wp2_with (go_at_fn (ρ.f 288);refine (Any.internal_strconv_AppendUint_10_small { L with } B n u hu sv xs w hown hBw (by omega)).mono ?_;rintro e w2 ⟨v2,rfl,hown2,hnx2,hok2⟩)
 go_wp2
 first|go_ret|go_ret2
 exact ⟨v2,rfl,hown2,hnx2,hok2⟩
set_option maxRecDepth 100000 in
theorem ZKk (L:LaysM.n176 P ρ) (B n u:Nat) (hu:u<100) (sv:Value) (xs:List Value) (w:World) (hown:w.ownsRow B (ρ.t 5) 1 sv n xs) (hBw:B≤w.heap.size) (hlim:n+21≤140737488355328) :
  Calls P (ρ.f 176) #[sv,.int .i64 (u:Int),.int .i64 10] w fun e w'=>∃ v',e = .returned v'/\w'.ownsRow B (ρ.t 5) 1 v' (n+(Lib.itoa (u:Int)).length) (xs++Lib.byteCells (Lib.itoa (u:Int)))/\Below B w w'/\Lib.OthersKept (ρ.t 5) none w w':=by
 have mixed:=L.mixed
 have t5:=L.t5;have a5:=L.a5;have z5:=L.z5;have v5:=L.v5
 have t37:=L.t37;have u37:=run_underlying L.t37;have a37:=L.a37;have z37:=L.z37;have v37:=L.v37
 have t2:=L.t2;have a2:=L.a2;have z2:=L.z2;have v2:=L.v2
 have t3:=L.t3;have a3:=L.a3;have z3:=L.z3;have v3:=L.v3
 have e249:∀ args w,(callFunc (ρ.f 249) args).run P w = .ok (.enter (ρ.f 249) args) w:=enters_of L.f249 (by kernel_rfl) rfl
 go_enter L.f176,Body.n176_ntmps ρ
 go_wp2_with (go_at_fn (ρ.f 249);refine (ZGh { L with } B n u hu sv xs w hown hBw hlim).mono ?_;rintro e w2 ⟨v2,rfl,hown2,hnx2,hok2⟩)
 go_wp2
 go_ret
 exact ⟨v2,rfl,hown2,hnx2,hok2⟩
end
section
section
variable {s:List Vx}
def GoodS (s:List Vx):Prop:=Z5 s=0/\ZSZ s=true/\s.length≤4
theorem GoodS.len (h:GoodS s):1≤s.length:=by have:=Zf.1 h.1;omega
end
end
section
def ZIY (V:List Vx) (v:Vx):Int:=ZF9 (fun y=>decide (v=y)) 0 V
theorem ZJ4 {α:Type} {p:α->Bool}:∀ (l:List α) (k:Nat),0≤ZF9 p k l->∃ j,ZF9 p k l=((k+j:Nat):Int)/\∃ h:j<l.length,p l[j]=true
 | [],k,h=>absurd h (by unfold ZF9;omega)
 | x::l,k,h=>by
  unfold ZF9 at h ⊢
  by_cases hx:p x=true
  ·rw [if_pos hx];exact ⟨0,by simp,by simp,by simpa using hx⟩
  ·rw [if_neg hx] at h ⊢
   obtain ⟨j,h1,h2,h3⟩:=ZJ4 l (k+1) h
   exact ⟨j+1,by rw [h1];congr 1;omega,by simpa using h2,by simpa using h3⟩
theorem ZPm {V:List Vx} {v:Vx} (h:0≤ZIY V v):∃ j:Nat,ZIY V v=(j:Int)/\∃ h:j<V.length,V[j]=v:=by
 obtain ⟨j,h1,h2,h3⟩:=ZJ4 V 0 h
 exact ⟨j,by rw [Nat.zero_add] at h1;exact h1,h2,(of_decide_eq_true h3).symm⟩
def ZH1 (V:List Vx) (C:Cx) (out:List Vx) (v:Vx):List Vx:=if 0≤ZIY V v then out++(C[(ZIY V v).toNat]?.getD []) else out
def ZQM (V:List Vx) (C:Cx) (s:List Vx):List Vx:=s.foldl (ZH1 V C) []
def unP (V:List Vx) (C:Cx) (s:List Vx):List Vx:=if (ofV (ZQM V C s)).2≠0 then [] else (ofV (ZQM V C s)).1
theorem ZMX (V:List Vx) (C:Cx) (hc:∀ c∈C,c.length≤8):∀ (s out:List Vx),(s.foldl (ZH1 V C) out).length≤out.length+8*s.length
 | [],out=>by simp
 | v::s,out=>by
  rw [List.foldl_cons]
  have h1:=ZMX V C hc s (ZH1 V C out v)
  have h2:(ZH1 V C out v).length≤out.length+8:=by
   unfold ZH1
   split
   ·rw [List.length_append]
    have:(C[(ZIY V v).toNat]?.getD []).length≤8:=by
     cases h:C[(ZIY V v).toNat]? with
     | none=>simp
     | some c=>exact hc c (List.mem_of_getElem? h)
    omega
   ·omega
  simp only [List.length_cons]
  omega
def okP (c:Cx) (V:List Vx) (C:Cx) (f:List Vx):Bool:=decide ((ZDQ c (unP V C f)).2=0) && (ZDQ c (unP V C f)).1
def ZLV (c:Cx):List (List Vx)->Int
 | []=>0
 | s::l=>if Z5 s≠0 then Z5 s else if ZB1 c s=false then 6 else ZLV c l
def ZCq (p:List Vx->Bool) (c F:Cx) (V:List Vx) (C:Cx):Int :=
 if ZAy c≠0 then ZAy c else if ZAy F≠0 then ZAy F else if ¬ (V=ZFU F/\C.length=V.length) then 15 else if ZLV c C≠0 then ZLV c C else if F.all p=true then 0 else 22
theorem ZH0 {c:Cx}:∀ {l:List (List Vx)},ZLV c l=0->∀ s∈l,Z5 s=0/\ZB1 c s=true
 | [],_,_,h=>by cases h
 | s::l,h,x,hx=>by
  unfold ZLV at h
  by_cases h1:Z5 s≠0
  ·rw [if_pos h1] at h;exact absurd h h1
  rw [if_neg h1] at h
  by_cases h2:ZB1 c s=false
  ·rw [if_pos h2] at h;exact absurd h (by decide)
  rw [if_neg h2] at h
  rcases List.mem_cons.1 hx with rfl|hx
  ·exact ⟨by omega,by simpa using h2⟩
  ·exact ZH0 h x hx
end
end Go.Proofs.YtofkoleingbbpaaGreatDoor
