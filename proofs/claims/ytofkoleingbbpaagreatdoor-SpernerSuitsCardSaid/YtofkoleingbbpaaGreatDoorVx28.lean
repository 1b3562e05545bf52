/- Part 28: walks by contracts, and plain laws. -/
import Derived.Test.YtofkoleingbbpaaGreatDoorVx27
set_option linter.unusedVariables false
set_option linter.unusedSimpArgs false
set_option linter.unusedSectionVars false
set_option maxRecDepth 100000
set_option maxHeartbeats 4000000
namespace Go.Proofs.YtofkoleingbbpaaGreatDoor
section
open Go.RowKit

def ZN7 (A B:List Int):Bool:=(List.range B.length).all fun i=>!decide (ZK5 (B.getD i 0) (A.getD i 0)=0)
def ZDM (vs:List Vx) (A:List Int) (ws:List Vx) (B:List Int):Bool × Int :=
 if ZAa vs A≠0 then (false,ZAa vs A) else if ZAa ws B≠0 then (false,ZAa ws B) else if ZLc B=false then (false,3) else if vs=ws then (ZN7 A B,0) else (false,0)
theorem ZKS {A B:List Int} {i:Nat} (hi:i<B.length) (hA:i<A.length) (h:ZK5 B[i] A[i]=0):ZN7 A B=false:=by
 unfold ZN7
 rw [List.all_eq_false]
 refine ⟨i,List.mem_range.2 hi,?_⟩
 simp [List.getD_eq_getElem?_getD,List.getElem?_eq_getElem hi,List.getElem?_eq_getElem hA,h]
theorem ZIj {A B:List Int} (hl:A.length=B.length) (h:∀ i (hi:i<B.length) (hA:i<A.length),ZK5 B[i] A[i]≠0):ZN7 A B=true:=by
 unfold ZN7
 rw [List.all_eq_true]
 intro i hi
 have hi:=List.mem_range.1 hi
 have hA:i<A.length:=by omega
 have:=h i hi hA
 simp [List.getD_eq_getElem?_getD,List.getElem?_eq_getElem hi,List.getElem?_eq_getElem hA,this]
set_option maxHeartbeats 8000000 in
theorem ZN8 (vs:List Vx) (A:List Int) (ws:List Vx) (B:List Int):Fn Tryz.prog 11 [dS Lab (vs,A),dS Lab (ws,B)] (dT [dB (ZDM vs A ws B).1,dI (ZDM vs A ws B).2]):=by
 have c1:=ZE9 vs A
 have c2:=ZE9 ws B
 obtain ⟨o,ho⟩:∃ o,ZDM vs A ws B=o:=⟨_,rfl⟩
 rw [ho]
 unfold ZDM at ho
 by_cases h1:ZAa vs A≠0
 ·rw [if_pos h1] at ho;subst ho
  (refine Zq Tryz.func11 rfl rfl ?_;simp only [Tryz.ntmps11,List.length_cons,List.length_nil,Nat.reduceAdd,Nat.reduceSub,List.replicate_succ,List.replicate_zero,List.cons_append,List.nil_append])
  ((repeat' (first|(apply WL.opN;exact yF;dsimp only [ZB,z0,z1])|refine WL.nil ?_|refine ZA fun Kx hK=>?_|(refine hK _ _ ?_;clear hK)|refine WC.region ?_|(apply WL.opN;(focus ((first|(apply SY.load;exact ZBq;exact OpD.t rfl)|(apply SY.call (c1) Tryz.call13;exact ArgsD.cons (OpD.t rfl) (ArgsD.nil))|((first|apply SY.move|apply SY.assign|apply SY.lss|apply SY.eql|apply SY.neq|apply SY.and|apply SY.not) <;> (exact oD))|(apply SY.box;(exact oD);(exact hD))|fail);all_goals infer_instance));dsimp only [ZB,z0,z1])|(apply ZG;(exact oD);all_goals (intro h;try exact xD))|refine WC.ret ?_|refine ThenD.r ?_));all_goals (first|((repeat clear hK);(repeat clear Kx))))
  all_goals try (exfalso;first|contradiction|omega)
  (refine ⟨trivial,⟨_,rfl,?_⟩,_,rfl,?_⟩ <;> exact fD)
 rw [if_neg h1] at ho
 have h1':ZAa vs A=0:=Classical.byContradiction h1
 rw [h1'] at c1
 by_cases h2:ZAa ws B≠0
 ·rw [if_pos h2] at ho;subst ho
  (refine Zq Tryz.func11 rfl rfl ?_;simp only [Tryz.ntmps11,List.length_cons,List.length_nil,Nat.reduceAdd,Nat.reduceSub,List.replicate_succ,List.replicate_zero,List.cons_append,List.nil_append])
  ((repeat' (first|(apply WL.opN;exact yF;dsimp only [ZB,z0,z1])|refine WL.nil ?_|refine ZA fun Kx hK=>?_|(refine hK _ _ ?_;clear hK)|refine WC.region ?_|(apply WL.opN;(focus ((first|(apply SY.load;exact ZBq;exact OpD.t rfl)|(apply SY.call (c1) Tryz.call13;exact ArgsD.cons (OpD.t rfl) (ArgsD.nil))|(apply SY.call (c2) Tryz.call13;exact ArgsD.cons (OpD.t rfl) (ArgsD.nil))|((first|apply SY.move|apply SY.assign|apply SY.lss|apply SY.eql|apply SY.neq|apply SY.and|apply SY.not) <;> (exact oD))|(apply SY.box;(exact oD);(exact hD))|fail);all_goals infer_instance));dsimp only [ZB,z0,z1])|(apply ZG;(exact oD);all_goals (intro h;try exact xD))|refine WC.skip ?_|refine WC.ret ?_|refine ThenD.r ?_));all_goals (first|((repeat clear hK);(repeat clear Kx))))
  all_goals try (exfalso;first|contradiction|omega)
  (refine ⟨trivial,⟨_,rfl,?_⟩,_,rfl,?_⟩ <;> exact fD)
 rw [if_neg h2] at ho
 have h2':ZAa ws B=0:=Classical.byContradiction h2
 rw [h2'] at c2
 obtain ⟨f1,f2,f3,f4,f5⟩:=ZBI h1'
 obtain ⟨g1,g2,g3,g4,g5⟩:=ZBI h2'
 have c4:=ZKQ ws B fun m hm=>by have:=g5 m hm;omega
 have c5:=ZSb vs ws
 by_cases h3:ZLc B=false
 ·rw [if_pos h3] at ho;subst ho
  rw [h3] at c4
  (refine Zq Tryz.func11 rfl rfl ?_;simp only [Tryz.ntmps11,List.length_cons,List.length_nil,Nat.reduceAdd,Nat.reduceSub,List.replicate_succ,List.replicate_zero,List.cons_append,List.nil_append])
  ((repeat' (first|(apply WL.opN;exact yF;dsimp only [ZB,z0,z1])|refine WL.nil ?_|refine ZA fun Kx hK=>?_|(refine hK _ _ ?_;clear hK)|refine WC.region ?_|(apply WL.opN;(focus ((first|(apply SY.load;exact ZBq;exact OpD.t rfl)|(apply SY.call (c1) Tryz.call13;exact ArgsD.cons (OpD.t rfl) (ArgsD.nil))|(apply SY.call (c2) Tryz.call13;exact ArgsD.cons (OpD.t rfl) (ArgsD.nil))|(apply SY.call (c4) Tryz.call35;(exact aD))|((first|apply SY.move|apply SY.assign|apply SY.lss|apply SY.eql|apply SY.neq|apply SY.and|apply SY.not) <;> (exact oD))|(apply SY.box;(exact oD);(exact hD))|fail);all_goals infer_instance));dsimp only [ZB,z0,z1])|(apply ZG;(exact oD);all_goals (intro h;try exact xD))|(apply ZO;(exact oD);all_goals (intro h;try exact xD))|refine WC.skip ?_|refine WC.ret ?_|refine ThenD.r ?_));all_goals (first|((repeat clear hK);(repeat clear Kx))))
  all_goals try (exfalso;first|contradiction|omega)
  (refine ⟨trivial,⟨_,rfl,?_⟩,_,rfl,?_⟩ <;> exact fD)
 rw [if_neg h3] at ho
 have h3':ZLc B=true:=by simpa using h3
 rw [h3'] at c4
 by_cases h4:vs=ws
 ·rw [if_pos h4] at ho
  rw [decide_eq_true h4] at c5
  have hAB:A.length=B.length:=by rw [f2,g2,h4]
  (refine Zq Tryz.func11 rfl rfl ?_;simp only [Tryz.ntmps11,List.length_cons,List.length_nil,Nat.reduceAdd,Nat.reduceSub,List.replicate_succ,List.replicate_zero,List.cons_append,List.nil_append])
  (repeat' (first|(apply WL.opN;exact yF;dsimp only [ZB,z0,z1])|refine WL.nil ?_|refine ZA fun Kx hK=>?_|(refine hK _ _ ?_;clear hK)|refine WC.region ?_|(apply WL.opN;(focus ((first|(apply SY.load;exact ZBq;exact OpD.t rfl)|(refine ZP ZAG (OpD.t rfl) Zp rfl rfl)|(apply SY.load;exact ZDW;exact OpD.t rfl)|(apply SY.call (c1) Tryz.call13;exact ArgsD.cons (OpD.t rfl) (ArgsD.nil))|(apply SY.call (c2) Tryz.call13;exact ArgsD.cons (OpD.t rfl) (ArgsD.nil))|(apply SY.call (c4) Tryz.call35;(exact aD))|(apply SY.call (c5) Tryz.call36;(exact aD))|((first|apply SY.move|apply SY.assign|apply SY.lss|apply SY.eql|apply SY.neq|apply SY.and|apply SY.not) <;> (exact oD))|(apply SY.len;(exact oD);(exact nD);(exact uD))|(apply SY.box;(exact oD);(exact hD))|fail);all_goals infer_instance));dsimp only [ZB,z0,z1])|(apply ZG;(exact oD);all_goals (intro h;try exact xD))|(apply ZO;(exact oD);all_goals (intro h;try exact xD))|refine WC.skip ?_|refine WC.block ?_))
  all_goals try (exfalso;first|contradiction|omega)
  (refine WC.loopU (X:=Nat) (fun k=>[(32,dI (k:Int)),(4,dA),(5,dA),(8,dA),(9,dA),(33,dA),(34,dA),(35,dA),(36,dA),(37,dA),(38,dA),(39,dA),(40,dA),(41,dA),(42,dA),(43,dA),(44,dA),(45,dA)]) (fun k=>[]) (fun k=>B.length-k) (fun k=>k≤B.length/\∀ i (hi:i<B.length) (hA:i<A.length),i<k->ZK5 B[i] A[i]≠0) 0 ?start ?frame0 ?objs0 ?round)
  case start=>exact ⟨Nat.zero_le _,fun i _ _ h=>absurd h (Nat.not_lt_zero i)⟩
  case frame0=>((try dsimp only [ZK,z0,z1]);repeat (first|exact LeF.nil|refine ZD (k:=?_)))
  case objs0=>rfl
  case round =>
   rintro k ⟨hk,hno⟩
   dsimp only [ZK,z0,z1]
   by_cases hkl:k<B.length
   ·have hkI:(k:Int)<(B.length:Int):=by omega
    have hkA:k<A.length:=by omega
    by_cases hz:ZK5 B[k] A[k]=0
    ·rw [ZKS hkl hkA hz] at ho
     subst ho
     ((repeat' (first|(apply WL.opN;exact yF;dsimp only [ZB,z0,z1])|refine WL.nil ?_|refine ZA fun Kx hK=>?_|(refine hK _ _ ?_;clear hK)|refine WC.region ?_|(apply WL.opN;(focus ((first|(refine ZP ZAG (OpD.t rfl) Zp rfl rfl)|(apply SY.load;exact ZDW;exact OpD.t rfl)|(exact SY.ix (R:=RI) (_gR:=inferInstance) (k:=k) elI (OpD.t rfl) (OpD.t rfl) hkl)|(exact SY.ix (R:=RI) (_gR:=inferInstance) (k:=k) elI (OpD.t rfl) (OpD.t rfl) hkA)|((first|apply SY.move|apply SY.assign|apply SY.lss|apply SY.eql|apply SY.neq|apply SY.and|apply SY.not) <;> (exact oD))|fail);all_goals infer_instance));dsimp only [ZB,z0,z1])|(apply ZC;(exact oD);all_goals (intro h;try exact xD))|refine WC.skip ?_|refine WC.ret ?_|refine WC.block ?_|refine ThenD.r ?_|refine InBlockD.r ?_));all_goals (first|((repeat clear hK);(repeat clear Kx))))
     all_goals try (exfalso;first|contradiction|omega)
     (refine ⟨trivial,⟨_,rfl,?_⟩,_,rfl,?_⟩ <;> exact fD)
    ·((repeat' (first|(apply WL.opN;exact yF;dsimp only [ZB,z0,z1])|refine WL.nil ?_|refine ZA fun Kx hK=>?_|(refine hK _ _ ?_;clear hK)|refine WC.region ?_|(apply WL.opN;(focus ((first|(refine ZP ZAG (OpD.t rfl) Zp rfl rfl)|(apply SY.load;exact ZDW;exact OpD.t rfl)|(exact SY.ix (R:=RI) (_gR:=inferInstance) (k:=k) elI (OpD.t rfl) (OpD.t rfl) hkl)|(exact SY.ix (R:=RI) (_gR:=inferInstance) (k:=k) elI (OpD.t rfl) (OpD.t rfl) hkA)|((first|apply SY.move|apply SY.assign|apply SY.lss|apply SY.eql|apply SY.neq|apply SY.and|apply SY.not) <;> (exact oD))|((first|apply SY.add) <;> first|exact oD|omega)|fail);all_goals infer_instance));dsimp only [ZB,z0,z1])|(apply ZC;(exact oD);all_goals (intro h;try exact xD))|refine WC.skip ?_|refine WC.block ?_|refine ThenD.n ?_));all_goals (first|((repeat clear hK);(repeat clear Kx))))
     all_goals try (exfalso;first|contradiction|omega)
     (refine ⟨k+1,?_,by first|omega|(simp only;omega),rfl,?_⟩;rotate_left;((try dsimp only [ZK,z0,z1]);repeat (first|exact LeF.nil|refine ZD (k:=?_)));(try dsimp only))
     refine ⟨hkl,fun i hi hA hik=>?_⟩
     by_cases e:i=k
     ·subst e;exact hz
     ·exact hno i hi hA (by omega)
   ·have hkI:¬ (k:Int)<(B.length:Int):=by omega
    rw [ZIj hAB fun i hi hA=>hno i hi hA (by omega)] at ho
    subst ho
    ((repeat' (first|(apply WL.opN;exact yF;dsimp only [ZB,z0,z1])|refine WL.nil ?_|refine ZA fun Kx hK=>?_|(refine hK _ _ ?_;clear hK)|(refine Kont.skip ?_;clear hK)|refine WC.region ?_|(apply WL.opN;(focus ((first|((first|apply SY.move|apply SY.assign|apply SY.lss|apply SY.eql|apply SY.neq|apply SY.and|apply SY.not) <;> (exact oD))|fail);all_goals infer_instance));dsimp only [ZB,z0,z1])|(apply ZC;(exact oD);all_goals (intro h;try exact xD))|refine WC.ret ?_|refine WC.exit ?_));all_goals (first|((repeat clear hK);(repeat clear Kx))))
    all_goals try (exfalso;first|contradiction|omega)
    (refine ⟨trivial,⟨_,rfl,?_⟩,_,rfl,?_⟩ <;> exact fD)
 ·rw [if_neg h4] at ho;subst ho
  rw [decide_eq_false h4] at c5
  (refine Zq Tryz.func11 rfl rfl ?_;simp only [Tryz.ntmps11,List.length_cons,List.length_nil,Nat.reduceAdd,Nat.reduceSub,List.replicate_succ,List.replicate_zero,List.cons_append,List.nil_append])
  ((repeat' (first|(apply WL.opN;exact yF;dsimp only [ZB,z0,z1])|refine WL.nil ?_|refine ZA fun Kx hK=>?_|(refine hK _ _ ?_;clear hK)|refine WC.region ?_|(apply WL.opN;(focus ((first|(apply SY.load;exact ZBq;exact OpD.t rfl)|(refine ZP ZAG (OpD.t rfl) Zp rfl rfl)|(apply SY.call (c1) Tryz.call13;exact ArgsD.cons (OpD.t rfl) (ArgsD.nil))|(apply SY.call (c2) Tryz.call13;exact ArgsD.cons (OpD.t rfl) (ArgsD.nil))|(apply SY.call (c4) Tryz.call35;(exact aD))|(apply SY.call (c5) Tryz.call36;(exact aD))|((first|apply SY.move|apply SY.assign|apply SY.lss|apply SY.eql|apply SY.neq|apply SY.and|apply SY.not) <;> (exact oD))|(apply SY.box;(exact oD);(exact hD))|fail);all_goals infer_instance));dsimp only [ZB,z0,z1])|(apply ZG;(exact oD);all_goals (intro h;try exact xD))|(apply ZO;(exact oD);all_goals (intro h;try exact xD))|refine WC.skip ?_|refine WC.ret ?_|refine ThenD.r ?_));all_goals (first|((repeat clear hK);(repeat clear Kx))))
  all_goals try (exfalso;first|contradiction|omega)
  (refine ⟨trivial,⟨_,rfl,?_⟩,_,rfl,?_⟩ <;> exact fD)
end
section
open Go.RowKit

def ZFd (m:Int):Bool:=(List.range 8).any fun i=>decide (m=((2 ^ i:Nat):Int))
theorem ZN0 {m:Int} {k:Nat} (hk:k<8) (h:m=((2 ^ k:Nat):Int)):ZFd m=true:=List.any_eq_true.2 ⟨k,List.mem_range.2 hk,decide_eq_true h⟩
theorem ZPy {m:Int} (h:∀ i,i<8->m≠((2 ^ i:Nat):Int)):ZFd m=false:=by
 unfold ZFd
 rw [List.any_eq_false]
 intro i hi
 simp only [decide_eq_true_eq]
 exact h i (List.mem_range.1 hi)
set_option maxHeartbeats 4000000 in
theorem ZLO (m:Int):Fn Tryz.prog 76 [dI m] (dB (ZFd m)):=by
 obtain ⟨o,ho⟩:∃ o,ZFd m=o:=⟨_,rfl⟩
 rw [ho]
 (refine ZE Tryz.func76 rfl rfl ?_;simp only [Tryz.ntmps76,List.length_cons,List.length_nil,Nat.reduceAdd,Nat.reduceSub,List.replicate_succ,List.replicate_zero,List.cons_append,List.nil_append])
 (repeat' (first|(apply WL.opN;exact yF;dsimp only [ZB,z0,z1])|refine WL.nil ?_|refine ZA fun Kx hK=>?_|(refine hK _ _ ?_;clear hK)|refine WC.region ?_|refine WC.block ?_))
 all_goals try (exfalso;first|contradiction|omega)
 (refine WC.loopU (X:=Nat) (fun k=>[(3,dI (k:Int)),(2,dA),(4,dA),(5,dA),(6,dA),(7,dA),(8,dA),(9,dA),(10,dA),(11,dA)]) (fun k=>[]) (fun k=>8-k) (fun k=>k≤8/\∀ i,i<k->m≠((2 ^ i:Nat):Int)) 0 ?start ?frame0 ?objs0 ?round)
 case start=>exact ⟨Nat.zero_le _,fun i h=>absurd h (Nat.not_lt_zero i)⟩
 case frame0=>((try dsimp only [ZK,z0,z1]);repeat (first|exact LeF.nil|refine ZD (k:=?_)))
 case objs0=>rfl
 case round =>
  rintro k ⟨hk,hno⟩
  dsimp only [ZK,z0,z1]
  by_cases hkl:k<8
  ·have hkI:(k:Int)<8:=by omega
   have hk8:k≤8:=by omega
   obtain ⟨N,hN⟩:∃ N,2 ^ k=N:=⟨_,rfl⟩
   by_cases he:m=(N:Int)
   ·rw [ZN0 hkl (by rw [hN];exact he)] at ho
    subst ho
    ((repeat' (first|(apply WL.opN;exact yF;dsimp only [ZB,z0,z1])|refine WL.nil ?_|refine ZA fun Kx hK=>?_|(refine hK _ _ ?_;clear hK)|refine WC.region ?_|(apply WL.opN;(focus ((first|(refine hN ▸ ZGa hk8 OpD.i (OpD.t rfl))|((first|apply SY.move|apply SY.assign|apply SY.lss|apply SY.eql) <;> (exact oD))|fail);all_goals infer_instance));dsimp only [ZB,z0,z1])|(apply ZC;(exact oD);all_goals (intro h;try exact xD))|refine WC.skip ?_|refine WC.ret ?_|refine WC.block ?_|refine ThenD.r ?_|refine InBlockD.r ?_));all_goals (first|((repeat clear hK);(repeat clear Kx))))
    all_goals try (exfalso;first|contradiction|omega)
    (refine ⟨trivial,_,rfl,?_⟩;exact fD)
   ·((repeat' (first|(apply WL.opN;exact yF;dsimp only [ZB,z0,z1])|refine WL.nil ?_|refine ZA fun Kx hK=>?_|(refine hK _ _ ?_;clear hK)|refine WC.region ?_|(apply WL.opN;(focus ((first|(refine hN ▸ ZGa hk8 OpD.i (OpD.t rfl))|((first|apply SY.move|apply SY.assign|apply SY.lss|apply SY.eql) <;> (exact oD))|((first|apply SY.add) <;> first|exact oD|omega)|fail);all_goals infer_instance));dsimp only [ZB,z0,z1])|(apply ZC;(exact oD);all_goals (intro h;try exact xD))|refine WC.skip ?_|refine WC.block ?_|refine ThenD.n ?_));all_goals (first|((repeat clear hK);(repeat clear Kx))))
    all_goals try (exfalso;first|contradiction|omega)
    (refine ⟨k+1,?_,by first|omega|(simp only;omega),rfl,?_⟩;rotate_left;((try dsimp only [ZK,z0,z1]);repeat (first|exact LeF.nil|refine ZD (k:=?_)));(try dsimp only))
    refine ⟨hkl,fun i hi=>?_⟩
    by_cases e:i=k
    ·rw [e,hN];exact he
    ·exact hno i (by omega)
  ·have hkI:¬ (k:Int)<8:=by omega
   rw [ZPy fun i hi=>hno i (by omega)] at ho
   subst ho
   ((repeat' (first|(apply WL.opN;exact yF;dsimp only [ZB,z0,z1])|refine WL.nil ?_|refine ZA fun Kx hK=>?_|(refine hK _ _ ?_;clear hK)|(refine Kont.skip ?_;clear hK)|refine WC.region ?_|(apply WL.opN;(focus ((first|((first|apply SY.move|apply SY.assign|apply SY.lss|apply SY.eql) <;> (exact oD))|fail);all_goals infer_instance));dsimp only [ZB,z0,z1])|(apply ZC;(exact oD);all_goals (intro h;try exact xD))|refine WC.ret ?_|refine WC.exit ?_));all_goals (first|((repeat clear hK);(repeat clear Kx))))
   all_goals try (exfalso;first|contradiction|omega)
   (refine ⟨trivial,_,rfl,?_⟩;exact fD)
set_option maxHeartbeats 4000000 in
theorem ZEW (vs:List Vx) (A:List Int) (hl:A.length≤1000000):Fn Tryz.prog 37 [dS Lab (vs,A)] (dB (A.all ZFd)):=by
 obtain ⟨o,ho⟩:∃ o,A.all ZFd=o:=⟨_,rfl⟩
 rw [ho]
 (refine ZE Tryz.func37 rfl rfl ?_;simp only [Tryz.ntmps37,List.length_cons,List.length_nil,Nat.reduceAdd,Nat.reduceSub,List.replicate_succ,List.replicate_zero,List.cons_append,List.nil_append])
 (repeat' (first|(apply WL.opN;exact yF;dsimp only [ZB,z0,z1])|refine WL.nil ?_|refine ZA fun Kx hK=>?_|(refine hK _ _ ?_;clear hK)|refine WC.region ?_|(apply WL.opN;(focus ((first|(apply SY.box;(exact oD);(exact hD))|fail);all_goals infer_instance));dsimp only [ZB,z0,z1])|refine WC.block ?_))
 all_goals try (exfalso;first|contradiction|omega)
 (refine WC.loopU (X:=Nat) (fun k=>[(3,dI (k:Int)),(2,dA),(4,dA),(5,dA),(6,dA),(7,dA),(8,dA),(9,dA),(10,dA),(11,dA),(12,dA),(13,dA),(14,dA),(15,dA),(16,dA),(17,dA)]) (fun k=>[]) (fun k=>A.length-k) (fun k=>k≤A.length/\(A.drop k).all ZFd=o) 0 ?start ?frame0 ?objs0 ?round)
 case start=>exact ⟨Nat.zero_le _,ho⟩
 case frame0=>((try dsimp only [ZK,z0,z1]);repeat (first|exact LeF.nil|refine ZD (k:=?_)))
 case objs0=>rfl
 case round =>
  rintro k ⟨hk,hE⟩
  dsimp only [ZK,z0,z1]
  by_cases hkl:k<A.length
  ·have hkI:(k:Int)<(A.length:Int):=by omega
   have c1:=ZLO A[k]
   rw [List.drop_eq_getElem_cons hkl,List.all_cons] at hE
   cases hs:ZFd A[k] with
   | false =>
    rw [hs] at c1
    rw [hs,Bool.false_and] at hE
    subst hE
    ((repeat' (first|(apply WL.opN;exact yF;dsimp only [ZB,z0,z1])|refine WL.nil ?_|refine ZA fun Kx hK=>?_|(refine hK _ _ ?_;clear hK)|refine WC.region ?_|(apply WL.opN;(focus ((first|(refine ZP ZAG (OpD.t rfl) Zp rfl rfl)|(apply SY.load;exact ZDW;exact OpD.t rfl)|(refine SY.ix (R:=RI) (_gR:=inferInstance) elI (OpD.t rfl) (OpD.t rfl) hkl)|(apply SY.call (c1) Tryz.call76;(exact aD))|((first|apply SY.move|apply SY.assign|apply SY.lss|apply SY.not) <;> (exact oD))|(apply SY.len;(exact oD);(exact nD);(exact uD))|fail);all_goals infer_instance));dsimp only [ZB,z0,z1])|(apply ZC;(exact oD);all_goals (intro h;try exact xD))|(apply ZO;(exact oD);all_goals (intro h;try exact xD))|refine WC.skip ?_|refine WC.ret ?_|refine WC.block ?_|refine ThenD.r ?_|refine InBlockD.r ?_));all_goals (first|((repeat clear hK);(repeat clear Kx))))
    all_goals try (exfalso;first|contradiction|omega)
    (refine ⟨trivial,_,rfl,?_⟩;exact fD)
   | true =>
    rw [hs] at c1
    rw [hs,Bool.true_and] at hE
    ((repeat' (first|(apply WL.opN;exact yF;dsimp only [ZB,z0,z1])|refine WL.nil ?_|refine ZA fun Kx hK=>?_|(refine hK _ _ ?_;clear hK)|refine WC.region ?_|(apply WL.opN;(focus ((first|(refine ZP ZAG (OpD.t rfl) Zp rfl rfl)|(apply SY.load;exact ZDW;exact OpD.t rfl)|(refine SY.ix (R:=RI) (_gR:=inferInstance) elI (OpD.t rfl) (OpD.t rfl) hkl)|(apply SY.call (c1) Tryz.call76;(exact aD))|((first|apply SY.move|apply SY.assign|apply SY.lss|apply SY.not) <;> (exact oD))|((first|apply SY.add) <;> first|exact oD|omega)|(apply SY.len;(exact oD);(exact nD);(exact uD))|fail);all_goals infer_instance));dsimp only [ZB,z0,z1])|(apply ZC;(exact oD);all_goals (intro h;try exact xD))|(apply ZO;(exact oD);all_goals (intro h;try exact xD))|refine WC.skip ?_|refine WC.block ?_|refine ThenD.n ?_));all_goals (first|((repeat clear hK);(repeat clear Kx))))
    all_goals try (exfalso;first|contradiction|omega)
    (refine ⟨k+1,?_,by first|omega|(simp only;omega),rfl,?_⟩;rotate_left;((try dsimp only [ZK,z0,z1]);repeat (first|exact LeF.nil|refine ZD (k:=?_)));(try dsimp only))
    exact ⟨hkl,hE⟩
  ·have hkI:¬ (k:Int)<(A.length:Int):=by omega
   rw [List.drop_of_length_le (by omega)] at hE
   have h0:o=true:=hE.symm
   subst h0
   ((repeat' (first|(apply WL.opN;exact yF;dsimp only [ZB,z0,z1])|refine WL.nil ?_|refine ZA fun Kx hK=>?_|(refine hK _ _ ?_;clear hK)|(refine Kont.skip ?_;clear hK)|refine WC.region ?_|(apply WL.opN;(focus ((first|(refine ZP ZAG (OpD.t rfl) Zp rfl rfl)|(apply SY.load;exact ZDW;exact OpD.t rfl)|((first|apply SY.move|apply SY.assign|apply SY.lss|apply SY.not) <;> (exact oD))|(apply SY.len;(exact oD);(exact nD);(exact uD))|fail);all_goals infer_instance));dsimp only [ZB,z0,z1])|(apply ZC;(exact oD);all_goals (intro h;try exact xD))|refine WC.ret ?_|refine WC.exit ?_));all_goals (first|((repeat clear hK);(repeat clear Kx))))
   all_goals try (exfalso;first|contradiction|omega)
   (refine ⟨trivial,_,rfl,?_⟩;exact fD)
end
section
open Go.RowKit

theorem ZPz:∀ m:Fin 256,m.val≠0->decide (ZK5 (m.val:Int) ((m.val:Int)-1)=0)=ZFd (m.val:Int):=by decide +kernel
theorem ZNx {A:List Int} (h:∀ a∈A,1≤a/\a<256):ZLc A=A.all ZFd:=by
 unfold ZLc
 rw [List.any_eq_not_all_not,Bool.not_not]
 induction A with
 | nil=>rfl
 | cons a A ih =>
  obtain ⟨h1,h2⟩:=h a (by simp)
  obtain ⟨n,rfl⟩:=Int.eq_ofNat_of_zero_le (show 0≤a by omega)
  rw [List.all_cons,List.all_cons,ih fun b hb=>h b (by simp [hb]),Bool.not_not,ZPz ⟨n,by omega⟩ (by simp only;omega)]
set_option maxHeartbeats 8000000 in
theorem ZLK (vs:List Vx) (A:List Int) (ws:List Vx) (B:List Int):Fn Tryz.prog 12 [dS Lab (vs,A),dS Lab (ws,B)] (dT [dB (ZDM vs A ws B).1,dI (ZDM vs A ws B).2]):=by
 have c1:=ZEq vs A
 have c2:=ZEq ws B
 obtain ⟨o,ho⟩:∃ o,ZDM vs A ws B=o:=⟨_,rfl⟩
 rw [ho]
 unfold ZDM at ho
 by_cases h1:ZAa vs A≠0
 ·rw [if_pos h1] at ho;subst ho
  (refine Zq Tryz.func12 rfl rfl ?_;simp only [Tryz.ntmps12,List.length_cons,List.length_nil,Nat.reduceAdd,Nat.reduceSub,List.replicate_succ,List.replicate_zero,List.cons_append,List.nil_append])
  ((repeat' (first|((first|apply WL.opN|apply WD.opN);exact yF;dsimp only [ZB,z0,z1])|refine WL.nil ?_|refine ZA fun Kx hK=>?_|(refine hK _ _ ?_;clear hK)|refine WC.region ?_|((first|apply WL.opN|apply WD.opN);(focus ((first|(apply SY.load;exact ZBq;exact OpD.t rfl)|(apply SY.call (c1) Tryz.call14;exact ArgsD.cons (OpD.t rfl) (ArgsD.nil))|((first|apply SY.move|apply SY.assign|apply SY.lss|apply SY.eql|apply SY.neq|apply SY.and|apply SY.not) <;> (exact oD))|(apply SY.box;(exact oD);(exact hD))|fail);all_goals infer_instance));dsimp only [ZB,z0,z1])|(apply ZG;(exact oD);all_goals (intro h;try exact xD))|refine WC.ret ?_|refine ThenD.r ?_));all_goals (first|((repeat clear hK);(repeat clear Kx))))
  all_goals try (exfalso;first|contradiction|omega)
  (refine ⟨trivial,⟨_,rfl,?_⟩,_,rfl,?_⟩ <;> exact fD)
 rw [if_neg h1] at ho
 have h1':ZAa vs A=0:=Classical.byContradiction h1
 rw [h1'] at c1
 by_cases h2:ZAa ws B≠0
 ·rw [if_pos h2] at ho;subst ho
  (refine Zq Tryz.func12 rfl rfl ?_;simp only [Tryz.ntmps12,List.length_cons,List.length_nil,Nat.reduceAdd,Nat.reduceSub,List.replicate_succ,List.replicate_zero,List.cons_append,List.nil_append])
  ((repeat' (first|((first|apply WL.opN|apply WD.opN);exact yF;dsimp only [ZB,z0,z1])|refine WL.nil ?_|refine ZA fun Kx hK=>?_|(refine hK _ _ ?_;clear hK)|refine WC.region ?_|((first|apply WL.opN|apply WD.opN);(focus ((first|(apply SY.load;exact ZBq;exact OpD.t rfl)|(apply SY.call (c1) Tryz.call14;exact ArgsD.cons (OpD.t rfl) (ArgsD.nil))|(apply SY.call (c2) Tryz.call14;exact ArgsD.cons (OpD.t rfl) (ArgsD.nil))|((first|apply SY.move|apply SY.assign|apply SY.lss|apply SY.eql|apply SY.neq|apply SY.and|apply SY.not) <;> (exact oD))|(apply SY.box;(exact oD);(exact hD))|fail);all_goals infer_instance));dsimp only [ZB,z0,z1])|(apply ZG;(exact oD);all_goals (intro h;try exact xD))|refine WC.skip ?_|refine WC.ret ?_|refine ThenD.r ?_));all_goals (first|((repeat clear hK);(repeat clear Kx))))
  all_goals try (exfalso;first|contradiction|omega)
  (refine ⟨trivial,⟨_,rfl,?_⟩,_,rfl,?_⟩ <;> exact fD)
 rw [if_neg h2] at ho
 have h2':ZAa ws B=0:=Classical.byContradiction h2
 rw [h2'] at c2
 obtain ⟨f1,f2,f3,f4,f5⟩:=ZBI h1'
 obtain ⟨g1,g2,g3,g4,g5⟩:=ZBI h2'
 have c4:=ZEW ws B (by omega)
 rw [<- ZNx g5] at c4
 have c5:=ZQh vs ws
 by_cases h3:ZLc B=false
 ·rw [if_pos h3] at ho;subst ho
  rw [h3] at c4
  (refine Zq Tryz.func12 rfl rfl ?_;simp only [Tryz.ntmps12,List.length_cons,List.length_nil,Nat.reduceAdd,Nat.reduceSub,List.replicate_succ,List.replicate_zero,List.cons_append,List.nil_append])
  ((repeat' (first|((first|apply WL.opN|apply WD.opN);exact yF;dsimp only [ZB,z0,z1])|refine WL.nil ?_|refine ZA fun Kx hK=>?_|(refine hK _ _ ?_;clear hK)|refine WC.region ?_|((first|apply WL.opN|apply WD.opN);(focus ((first|(apply SY.load;exact ZBq;exact OpD.t rfl)|(apply SY.call (c1) Tryz.call14;exact ArgsD.cons (OpD.t rfl) (ArgsD.nil))|(apply SY.call (c2) Tryz.call14;exact ArgsD.cons (OpD.t rfl) (ArgsD.nil))|(apply SY.call (c4) Tryz.call37;(exact aD))|((first|apply SY.move|apply SY.assign|apply SY.lss|apply SY.eql|apply SY.neq|apply SY.and|apply SY.not) <;> (exact oD))|(apply SY.box;(exact oD);(exact hD))|fail);all_goals infer_instance));dsimp only [ZB,z0,z1])|(apply ZG;(exact oD);all_goals (intro h;try exact xD))|(apply ZO;(exact oD);all_goals (intro h;try exact xD))|refine WC.skip ?_|refine WC.ret ?_|refine ThenD.r ?_));all_goals (first|((repeat clear hK);(repeat clear Kx))))
  all_goals try (exfalso;first|contradiction|omega)
  (refine ⟨trivial,⟨_,rfl,?_⟩,_,rfl,?_⟩ <;> exact fD)
 rw [if_neg h3] at ho
 have h3':ZLc B=true:=by simpa using h3
 rw [h3'] at c4
 by_cases h4:vs=ws
 ·rw [if_pos h4] at ho
  rw [decide_eq_true (ZCr.2 h4)] at c5
  have hAB:A.length=B.length:=by rw [f2,g2,h4]
  (refine Zq Tryz.func12 rfl rfl ?_;simp only [Tryz.ntmps12,List.length_cons,List.length_nil,Nat.reduceAdd,Nat.reduceSub,List.replicate_succ,List.replicate_zero,List.cons_append,List.nil_append])
  (repeat' (first|((first|apply WL.opN|apply WD.opN);exact yF;dsimp only [ZB,z0,z1])|refine WL.nil ?_|refine ZA fun Kx hK=>?_|(refine hK _ _ ?_;clear hK)|refine WC.region ?_|((first|apply WL.opN|apply WD.opN);(focus ((first|(apply SY.load;exact ZBq;exact OpD.t rfl)|(refine ZP ZAG (OpD.t rfl) Zp rfl rfl)|(apply SY.call (c1) Tryz.call14;exact ArgsD.cons (OpD.t rfl) (ArgsD.nil))|(apply SY.call (c2) Tryz.call14;exact ArgsD.cons (OpD.t rfl) (ArgsD.nil))|(apply SY.call (c4) Tryz.call37;(exact aD))|(apply SY.call (c5) Tryz.call38;(exact aD))|((first|apply SY.move|apply SY.assign|apply SY.lss|apply SY.eql|apply SY.neq|apply SY.and|apply SY.not) <;> (exact oD))|(apply SY.box;(exact oD);(exact hD))|fail);all_goals infer_instance));dsimp only [ZB,z0,z1])|(apply ZG;(exact oD);all_goals (intro h;try exact xD))|(apply ZO;(exact oD);all_goals (intro h;try exact xD))|refine WC.skip ?_|refine WC.block ?_))
  all_goals try (exfalso;first|contradiction|omega)
  (refine WC.loopU (X:=Nat) (fun k=>[(8,dI (k:Int)),(4,dA),(5,dA),(28,dA),(29,dA),(30,dA),(31,dA),(32,dA),(33,dA),(34,dA),(35,dA),(36,dA),(37,dA),(38,dA),(39,dA),(40,dA),(41,dA),(42,dA),(43,dA),(44,dA),(45,dA),(46,dA)]) (fun k=>[]) (fun k=>A.length-k) (fun k=>k≤A.length/\∀ i (hi:i<B.length) (hA:i<A.length),i<k->ZK5 B[i] A[i]≠0) 0 ?start ?frame0 ?objs0 ?round)
  case start=>exact ⟨Nat.zero_le _,fun i _ _ h=>absurd h (Nat.not_lt_zero i)⟩
  case frame0=>((try dsimp only [ZK,z0,z1]);repeat (first|exact LeF.nil|refine ZD (k:=?_)))
  case objs0=>rfl
  case round =>
   rintro k ⟨hk,hno⟩
   dsimp only [ZK,z0,z1]
   by_cases hkl:k<A.length
   ·have hkI:(k:Int)<(A.length:Int):=by omega
    have hkB:k<B.length:=by omega
    by_cases hz:ZK5 B[k] A[k]=0
    ·rw [ZKS hkB hkl hz] at ho
     subst ho
     ((repeat' (first|((first|apply WL.opN|apply WD.opN);exact yF;dsimp only [ZB,z0,z1])|refine WL.nil ?_|refine WD.nil ?_|refine ZA fun Kx hK=>?_|(refine hK _ _ ?_;clear hK)|refine WC.region ?_|(apply WC.draw;kernel_rfl;kernel_rfl)|((first|apply WL.opN|apply WD.opN);(focus ((first|(refine ZP ZAG (OpD.t rfl) Zp rfl rfl)|(apply SY.load;exact ZDW;exact OpD.t rfl)|(exact SY.ix (R:=RI) (_gR:=inferInstance) (k:=k) elI (OpD.t rfl) (OpD.t rfl) hkB)|(exact SY.ix (R:=RI) (_gR:=inferInstance) (k:=k) elI (OpD.t rfl) (OpD.t rfl) hkl)|((first|apply SY.move|apply SY.assign|apply SY.lss|apply SY.eql|apply SY.neq|apply SY.and|apply SY.not) <;> (exact oD))|(apply SY.len;(exact oD);(exact nD);(exact uD))|fail);all_goals infer_instance));dsimp only [ZB,z0,z1])|(apply ZC;(exact oD);all_goals (intro h;try exact xD))|refine WC.skip ?_|refine WC.ret ?_|refine WC.block ?_|refine ThenD.r ?_|refine InBlockD.r ?_));all_goals (first|((repeat clear hK);(repeat clear Kx))))
     all_goals try (exfalso;first|contradiction|omega)
     (refine ⟨trivial,⟨_,rfl,?_⟩,_,rfl,?_⟩ <;> exact fD)
    ·((repeat' (first|((first|apply WL.opN|apply WD.opN);exact yF;dsimp only [ZB,z0,z1])|refine WL.nil ?_|refine WD.nil ?_|refine ZA fun Kx hK=>?_|(refine hK _ _ ?_;clear hK)|refine WC.region ?_|(apply WC.draw;kernel_rfl;kernel_rfl)|((first|apply WL.opN|apply WD.opN);(focus ((first|(refine ZP ZAG (OpD.t rfl) Zp rfl rfl)|(apply SY.load;exact ZDW;exact OpD.t rfl)|(exact SY.ix (R:=RI) (_gR:=inferInstance) (k:=k) elI (OpD.t rfl) (OpD.t rfl) hkB)|(exact SY.ix (R:=RI) (_gR:=inferInstance) (k:=k) elI (OpD.t rfl) (OpD.t rfl) hkl)|((first|apply SY.move|apply SY.assign|apply SY.lss|apply SY.eql|apply SY.neq|apply SY.and|apply SY.not) <;> (exact oD))|((first|apply SY.add) <;> first|exact oD|omega)|(apply SY.len;(exact oD);(exact nD);(exact uD))|fail);all_goals infer_instance));dsimp only [ZB,z0,z1])|(apply ZC;(exact oD);all_goals (intro h;try exact xD))|refine WC.skip ?_|refine WC.block ?_|refine ThenD.n ?_));all_goals (first|((repeat clear hK);(repeat clear Kx))))
     all_goals try (exfalso;first|contradiction|omega)
     (refine ⟨k+1,?_,by first|omega|(simp only;omega),rfl,?_⟩;rotate_left;((try dsimp only [ZK,z0,z1]);repeat (first|exact LeF.nil|refine ZD (k:=?_)));(try dsimp only))
     refine ⟨hkl,fun i hi hA hik=>?_⟩
     by_cases e:i=k
     ·subst e;exact hz
     ·exact hno i hi hA (by omega)
   ·have hkI:¬ (k:Int)<(A.length:Int):=by omega
    rw [ZIj hAB fun i hi hA=>hno i hi hA (by omega)] at ho
    subst ho
    ((repeat' (first|((first|apply WL.opN|apply WD.opN);exact yF;dsimp only [ZB,z0,z1])|refine WL.nil ?_|refine ZA fun Kx hK=>?_|(refine hK _ _ ?_;clear hK)|(refine Kont.skip ?_;clear hK)|refine WC.region ?_|((first|apply WL.opN|apply WD.opN);(focus ((first|(refine ZP ZAG (OpD.t rfl) Zp rfl rfl)|(apply SY.load;exact ZDW;exact OpD.t rfl)|((first|apply SY.move|apply SY.assign|apply SY.lss|apply SY.eql|apply SY.neq|apply SY.and|apply SY.not) <;> (exact oD))|(apply SY.len;(exact oD);(exact nD);(exact uD))|fail);all_goals infer_instance));dsimp only [ZB,z0,z1])|(apply ZC;(exact oD);all_goals (intro h;try exact xD))|refine WC.ret ?_|refine WC.exit ?_));all_goals (first|((repeat clear hK);(repeat clear Kx))))
    all_goals try (exfalso;first|contradiction|omega)
    (refine ⟨trivial,⟨_,rfl,?_⟩,_,rfl,?_⟩ <;> exact fD)
 ·rw [if_neg h4] at ho;subst ho
  rw [decide_eq_false (fun q=>h4 (ZCr.1 q))] at c5
  (refine Zq Tryz.func12 rfl rfl ?_;simp only [Tryz.ntmps12,List.length_cons,List.length_nil,Nat.reduceAdd,Nat.reduceSub,List.replicate_succ,List.replicate_zero,List.cons_append,List.nil_append])
  ((repeat' (first|((first|apply WL.opN|apply WD.opN);exact yF;dsimp only [ZB,z0,z1])|refine WL.nil ?_|refine ZA fun Kx hK=>?_|(refine hK _ _ ?_;clear hK)|refine WC.region ?_|((first|apply WL.opN|apply WD.opN);(focus ((first|(apply SY.load;exact ZBq;exact OpD.t rfl)|(refine ZP ZAG (OpD.t rfl) Zp rfl rfl)|(apply SY.call (c1) Tryz.call14;exact ArgsD.cons (OpD.t rfl) (ArgsD.nil))|(apply SY.call (c2) Tryz.call14;exact ArgsD.cons (OpD.t rfl) (ArgsD.nil))|(apply SY.call (c4) Tryz.call37;(exact aD))|(apply SY.call (c5) Tryz.call38;(exact aD))|((first|apply SY.move|apply SY.assign|apply SY.lss|apply SY.eql|apply SY.neq|apply SY.and|apply SY.not) <;> (exact oD))|(apply SY.box;(exact oD);(exact hD))|fail);all_goals infer_instance));dsimp only [ZB,z0,z1])|(apply ZG;(exact oD);all_goals (intro h;try exact xD))|(apply ZO;(exact oD);all_goals (intro h;try exact xD))|refine WC.skip ?_|refine WC.ret ?_|refine ThenD.r ?_));all_goals (first|((repeat clear hK);(repeat clear Kx))))
  all_goals try (exfalso;first|contradiction|omega)
  (refine ⟨trivial,⟨_,rfl,?_⟩,_,rfl,?_⟩ <;> exact fD)
end
section
open Go.RowKit

theorem ZIZ {l:Cx} (h:∀ s∈l,s.length≤8) (k:Nat):(ZFU (l.take k)).length≤8*k:=by
 have h1:=ZJ0 (l:=l.take k) fun s hs=>h s (List.mem_of_mem_take hs)
 have h2:=(ZGg (l.take k).flatten []).2
 have h3:(l.take k).length≤k:=List.length_take_le _ _
 unfold ZFU
 simp only [List.length_nil] at h2
 omega
theorem ZLF (l:Cx) (h8:∀ s∈l,s.length≤8) (hl:l.length≤100):Fn Tryz.prog 88 [dS Cpx l] (dS ZJ (ZFU l)):=by
 (refine ZE Tryz.func88 rfl rfl ?_;simp only [Tryz.ntmps88,List.length_cons,List.length_nil,Nat.reduceAdd,Nat.reduceSub,List.replicate_succ,List.replicate_zero,List.cons_append,List.nil_append])
 (repeat' (first|(apply WL.opN;exact yF;dsimp only [ZB,z0,z1])|refine WL.nil ?_|refine ZA fun Kx hK=>?_|(refine hK _ _ ?_;clear hK)|refine WC.region ?_|(apply WL.opN;(focus ((first|(apply SY.box;(exact oD);(exact hD))|fail);all_goals infer_instance));dsimp only [ZB,z0,z1])|refine WC.block ?_))
 (refine WC.loopU (X:=Nat) (fun k=>[(4,dI (k:Int)),(3,dS ZJ (ZFU (l.take k))),(5,dA),(6,dA),(7,dA),(8,dA),(9,dA),(10,dA),(11,dA),(12,dA),(13,dA),(14,dA),(15,dA),(16,dA),(17,dA),(18,dA)]) (fun k=>[]) (fun k=>l.length-k) (fun k=>k≤l.length) 0 ?start ?frame0 ?objs0 ?round)
 case start=>exact Nat.zero_le _
 case frame0=>((try dsimp only [ZK,z0,z1]);repeat (first|exact LeF.nil|refine ZD (k:=?_)))
 case objs0=>rfl
 case round =>
  rintro k h1
  have hp:=ZIZ h8 k
  dsimp only [ZK,z0,z1]
  by_cases hk:k<l.length
  ·have c1:=ZSS (ZFU (l.take k)) l[k] (by omega) (by have:=h8 _ (List.getElem_mem hk);omega)
   rw [<- ZNh hk] at c1
   ((repeat' (first|(apply WL.opN;exact yF;dsimp only [ZB,z0,z1])|refine WL.nil ?_|refine ZA fun Kx hK=>?_|(refine hK _ _ ?_;clear hK)|refine WC.region ?_|(apply WL.opN;(focus ((first|(apply SY.call (c1) Tryz.call126;(exact aD))|((first|apply SY.move|apply SY.assign|apply SY.lss) <;> (exact oD))|((first|apply SY.add) <;> first|exact oD|omega)|(apply SY.len;(exact oD);(exact nD);(exact uD))|(apply SY.ix;(exact eD);(exact oD);(exact oD);exact kD)|(apply ZBy ZI8;exact OpD.t rfl)|fail);all_goals infer_instance));dsimp only [ZB,z0,z1])|(apply ZC;(exact oD);all_goals (intro h;try exact xD))|refine WC.skip ?_|refine WC.block ?_|refine ThenD.n ?_));all_goals (first|((repeat clear hK);(repeat clear Kx))))
   (refine ⟨k+1,?_,by first|omega|(simp only;omega),rfl,?_⟩;rotate_left;((try dsimp only [ZK,z0,z1]);repeat (first|exact LeF.nil|refine ZD (k:=?_)));(try dsimp only))
   omega
  ·((repeat' (first|(apply WL.opN;exact yF;dsimp only [ZB,z0,z1])|refine WL.nil ?_|refine ZA fun Kx hK=>?_|(refine hK _ _ ?_;clear hK)|(refine Kont.skip ?_;clear hK)|refine WC.region ?_|(apply WL.opN;(focus ((first|((first|apply SY.move|apply SY.assign|apply SY.lss) <;> (exact oD))|(apply SY.len;(exact oD);(exact nD);(exact uD))|(apply ZBy ZI8;exact OpD.t rfl)|fail);all_goals infer_instance));dsimp only [ZB,z0,z1])|(apply ZC;(exact oD);all_goals (intro h;try exact xD))|refine WC.ret ?_|refine WC.exit ?_));all_goals (first|((repeat clear hK);(repeat clear Kx))))
   rw [List.take_of_length_le (by omega)]
   (refine ⟨trivial,_,rfl,?_⟩;exact fD)
end
end Go.Proofs.YtofkoleingbbpaaGreatDoor
