/- Part 7: walks by contracts, and plain laws. -/
import Derived.Test.YtofkoleingbbpaaGreatDoorXe6
set_option linter.unusedVariables false
set_option linter.unusedSimpArgs false
set_option linter.unusedSectionVars false
set_option maxRecDepth 100000
set_option maxHeartbeats 64000000
namespace Go.Proofs.YtofkoleingbbpaaGreatDoor
section
open Go.RowKit
open C34

theorem ZLN {l:Cx} {vs:List Vx} {A:List Int} (h:ZCE l vs A=0):ZAW vs A=0:=by
 unfold ZCE at h;by_cases h1:(ZBf l).2≠0
 ·rw[if_pos h1] at h;exact absurd h h1
 rw[if_neg h1] at h;by_cases h2:ZAW vs A≠0
 ·rw[if_pos h2] at h;exact absurd h h2
 ·exact Classical.byContradiction h2
theorem ZLj (l:Cx) (vs:List Vx) (A:List Int) (L:List Cx) (hl:l.length≤100) (hLs:∀lv∈L,lv.length≤1000):Fn Tryz.prog 28 [dS Cpx l,dS Lab (vs,A),dS ZFw L] (dI (ZUo l vs A L)):=by
 rw[<- ZSL];obtain⟨o,ho⟩:∃o,rvfP l vs A L=o:=⟨_,rfl⟩;rw[ho];unfold rvfP at ho;have c1:=ZG9 l vs A hl;have c2:=ZRq l L fun lv h=>by have:=hLs lv h;omega
 (refine ZE Tryz.func28 rfl rfl ?_;simp only[Tryz.ntmps28,List.length_cons,List.length_nil,Nat.reduceAdd,Nat.reduceSub,List.replicate_succ,List.replicate_zero,List.cons_append,List.nil_append])
 by_cases h1:ZCE l vs A≠0
 ·rw[if_pos h1] at ho;subst ho;((repeat' (first|(apply WL.opN;exact yF;dsimp only[ZC,z0,z1])|refine WL.nil ?_|refine ZA fun Kx hK=>?_|(refine hK _ _ ?_;clear hK)|refine WC.region ?_|(apply WL.opN;(focus ((first|(exact SY.box (OpD.t rfl) ZAL)|(exact SY.box (OpD.t rfl) Z2)|(apply SY.load;exact ZAz;exact OpD.t rfl)|(apply SY.call (c1) Tryz.call63;(exact aD))|((first|apply SY.move|apply SY.assign|apply SY.neq|apply SY.not) <;> (exact oD))|fail);all_goals infer_instance));dsimp only[ZC,z0,z1])|(apply ZG;(exact oD);all_goals (intro h;try exact xD))|refine WC.ret ?_|refine ThenD.r ?_));all_goals (first|((repeat clear hK);(repeat clear Kx))))
  all_goals try (exfalso;first|contradiction|omega)
  (refine⟨trivial,_,rfl,?_⟩;exact fD)
 rw[if_neg h1] at ho;have h1':ZCE l vs A=0:=Classical.byContradiction h1;rw[h1'] at c1;by_cases h2:ZG7 l L≠0
 ·rw[if_pos h2] at ho;subst ho;((repeat' (first|(apply WL.opN;exact yF;dsimp only[ZC,z0,z1])|refine WL.nil ?_|refine ZA fun Kx hK=>?_|(refine hK _ _ ?_;clear hK)|refine WC.region ?_|(apply WL.opN;(focus ((first|(exact SY.box (OpD.t rfl) ZAL)|(exact SY.box (OpD.t rfl) Z2)|(apply SY.load;exact ZAz;exact OpD.t rfl)|(apply SY.call (c1) Tryz.call63;(exact aD))|(apply SY.call (c2) Tryz.call71;(exact aD))|((first|apply SY.move|apply SY.assign|apply SY.neq|apply SY.not) <;> (exact oD))|fail);all_goals infer_instance));dsimp only[ZC,z0,z1])|(apply ZG;(exact oD);all_goals (intro h;try exact xD))|refine WC.skip ?_|refine WC.ret ?_|refine ThenD.r ?_));all_goals (first|((repeat clear hK);(repeat clear Kx))))
  all_goals try (exfalso;first|contradiction|omega)
  (refine⟨trivial,_,rfl,?_⟩;exact fD)
 rw[if_neg h2] at ho;have h2':ZG7 l L=0:=Classical.byContradiction h2;rw[h2'] at c2;have c3:=ZNd l vs A L h1' h2' hl hLs (ZLN h1');cases hp:ZUi l (Zd vs A) L with
 | false =>
  rw[hp] at c3 ho;rw[if_pos rfl] at ho;subst ho;((repeat' (first|(apply WL.opN;exact yF;dsimp only[ZC,z0,z1])|refine WL.nil ?_|refine ZA fun Kx hK=>?_|(refine hK _ _ ?_;clear hK)|refine WC.region ?_|(apply WL.opN;(focus ((first|(exact SY.box (OpD.t rfl) ZAL)|(exact SY.box (OpD.t rfl) Z2)|(apply SY.load;exact ZAz;exact OpD.t rfl)|(apply SY.call (c1) Tryz.call63;(exact aD))|(apply SY.call (c2) Tryz.call71;(exact aD))|(apply SY.call (c3) Tryz.call72;(exact aD))|((first|apply SY.move|apply SY.assign|apply SY.neq|apply SY.not) <;> (exact oD))|fail);all_goals infer_instance));dsimp only[ZC,z0,z1])|(apply ZG;(exact oD);all_goals (intro h;try exact xD))|(apply ZO;(exact oD);all_goals (intro h;try exact xD))|refine WC.skip ?_|refine WC.ret ?_|refine ThenD.r ?_));all_goals (first|((repeat clear hK);(repeat clear Kx))))
  all_goals try (exfalso;first|contradiction|omega)
  (refine⟨trivial,_,rfl,?_⟩;exact fD)
 | true =>
  rw[hp] at c3 ho;rw[if_neg (by decide)] at ho;subst ho;((repeat' (first|(apply WL.opN;exact yF;dsimp only[ZC,z0,z1])|refine WL.nil ?_|refine ZA fun Kx hK=>?_|(refine hK _ _ ?_;clear hK)|refine WC.region ?_|(apply WL.opN;(focus ((first|(exact SY.box (OpD.t rfl) ZAL)|(exact SY.box (OpD.t rfl) Z2)|(apply SY.load;exact ZAz;exact OpD.t rfl)|(exact ZDO (OpD.t rfl))|(apply SY.call (c1) Tryz.call63;(exact aD))|(apply SY.call (c2) Tryz.call71;(exact aD))|(apply SY.call (c3) Tryz.call72;(exact aD))|((first|apply SY.move|apply SY.assign|apply SY.neq|apply SY.not) <;> (exact oD))|fail);all_goals infer_instance));dsimp only[ZC,z0,z1])|(apply ZQ;(exact oD);(with_reducible rfl))|(apply ZG;(exact oD);all_goals (intro h;try exact xD))|refine WC.skip ?_|refine WC.ret ?_));all_goals (first|((repeat clear hK);(repeat clear Kx))))
  all_goals try (exfalso;first|contradiction|omega)
  (refine⟨trivial,_,rfl,?_⟩;exact fD)
end
section
open Go.RowKit

def ZNM (l:Cx):Bool:=decide (l.length≤60) && l.all fun s=>decide (s.length≤10)
def ZNO (L:List Cx):Bool:=(L.take 12).all ZNM && decide (L.length≤12)
theorem ZTp (L:List Cx):Fn Tryz.prog 26 [dS ZFw L] (dB (ZNO L)):=by
 obtain⟨o,ho⟩:∃o,ZNO L=o:=⟨_,rfl⟩;rw[ho];unfold ZNO at ho;(refine ZE Tryz.func26 rfl rfl ?_;simp only[Tryz.ntmps26,List.length_cons,List.length_nil,Nat.reduceAdd,Nat.reduceSub,List.replicate_succ,List.replicate_zero,List.cons_append,List.nil_append])
 (first|refine ZR (t:=0) rfl ZEH fun hl0=>?_|refine ZR (t:=0) rfl ZDu fun hl0=>?_|refine ZR (t:=0) rfl ZJS fun hl0=>?_);simp only[maxLen] at hl0
 (repeat' (first|(apply WL.opN;exact yF;dsimp only[ZC,z0,z1])|refine WL.nil ?_|refine ZA fun Kx hK=>?_|(refine hK _ _ ?_;clear hK)|refine WC.region ?_|refine WC.block ?_))
 all_goals try (exfalso;first|contradiction|omega)
 (refine WC.loopU (X:=Nat) (fun k=>[(3,dI (k:Int)),(2,dA),(4,dA),(5,dA),(6,dA),(7,dA),(8,dA),(9,dA),(10,dA),(11,dA),(12,dA),(13,dA),(14,dA),(15,dA),(16,dA),(17,dA),(18,dA),(19,dA),(20,dA),(21,dA),(22,dA),(23,dA),(24,dA),(25,dA),(26,dA),(27,dA),(28,dA),(29,dA),(30,dA),(31,dA),(32,dA),(33,dA),(34,dA),(35,dA),(36,dA),(37,dA),(38,dA)]) (fun k=>[]) (fun k=>L.length-k) (fun k=>k≤L.length/\k≤12/\(((L.take 12).drop k).all ZNM && decide (L.length≤12))=o) 0 ?start ?frame0 ?objs0 ?round)
 case start=>exact⟨Nat.zero_le _,Nat.zero_le _,ho⟩
 case frame0=>exact zFr
 case objs0=>rfl
 case round =>
  rintro k ⟨hk,hk12,hE⟩;dsimp only[ZL,z0,z1];by_cases hkl:k<L.length
  ·have hkI:(k:Int)<(L.length:Int):=by omega
   by_cases h12:k<12
   ·have h12I:(k:Int)<12:=by omega
    have hkt:k<(L.take 12).length:=by rw[List.length_take];omega
    obtain⟨l,hl⟩:∃l,L[k]=l:=⟨_,rfl⟩;have hlt:(L.take 12)[k]=l:=by rw[List.getElem_take];exact hl
    rw[List.drop_eq_getElem_cons hkt,List.all_cons,hlt] at hE;by_cases h60:l.length≤60
    ·have h60I:¬ (l.length:Int)>60:=by omega
     unfold ZNM at hE;rw[decide_eq_true h60,Bool.true_and] at hE;(repeat' (first|(apply WL.opN;exact yF;dsimp only[ZC,z0,z1])|refine WL.nil ?_|refine ZA fun Kx hK=>?_|(refine hK _ _ ?_;clear hK)|refine WC.region ?_|(apply ZF;(focus (first|exact wN|(apply SYG.yes;(exact wY);((first|(apply SY.len;exact OpD.t rfl;exact ZB0;exact ZAK.unt)|(exact hl ▸ SY.ix (R:=Zh) (_gR:=inferInstance) (k:=k) ZAK (OpD.t rfl) (OpD.t rfl) hkl)|((first|apply SY.move|apply SY.assign|apply SY.lss|apply SY.leq|apply SY.gtr) <;> (exact oD))|(apply SY.len;(exact oD);(exact nD);(exact uD))|(apply ZZ;(exact oD);(with_reducible rfl);(exact oD))|fail);all_goals infer_instance))));dsimp only[ZC,z0,z1])|((first|refine ZK rfl rfl rfl (fun h=>?_) (fun h=>?_)|refine ZJ rfl rfl rfl (fun h=>?_) (fun h=>?_)|refine ZI rfl rfl rfl (fun h=>?_) (fun h=>?_)) <;> (first|(exfalso;first|omega|contradiction)|(dsimp only[z0,z1])))|(apply ZB;(exact oD);all_goals (intro h;try exact xD))|refine WC.skip ?_|refine WC.block ?_))
     all_goals try (exfalso;first|contradiction|omega)
     (refine WC.loopU (X:=Nat) (fun j=>[(4,dI (j:Int)),(2,dA),(21,dA),(22,dA),(23,dA),(24,dA),(25,dA),(26,dA),(27,dA),(28,dA),(29,dA),(30,dA),(31,dA),(32,dA),(33,dA),(34,dA),(35,dA),(36,dA),(37,dA),(38,dA)]) (fun j=>[]) (fun j=>l.length-j) (fun j=>j≤l.length/\((((l.drop j).all fun s=>decide (s.length≤10)) && ((L.take 12).drop (k+1)).all ZNM) && decide (L.length≤12))=o) 0 ?start ?frame0 ?objs0 ?round)
     case start=>exact⟨Nat.zero_le _,hE⟩
     case frame0=>exact zFr
     case objs0=>rfl
     case round =>
      rintro j ⟨hj,hF⟩;dsimp only[ZL,z0,z1];by_cases hjl:j<l.length
      ·have hjI:(j:Int)<(l.length:Int):=by omega
       rw[List.drop_eq_getElem_cons hjl,List.all_cons] at hF;by_cases h10:l[j].length≤10
       ·have h10I:¬ (l[j].length:Int)>10:=by omega
        rw[decide_eq_true h10,Bool.true_and] at hF;((repeat' (first|(apply WL.opN;exact yF;dsimp only[ZC,z0,z1])|refine WL.nil ?_|refine ZA fun Kx hK=>?_|(refine hK _ _ ?_;clear hK)|refine WC.region ?_|(apply ZF;(focus (first|exact wN|(apply SYG.yes;(exact wY);((first|(exact hl ▸ SY.ix (R:=Zh) (_gR:=inferInstance) (k:=k) ZAK (OpD.t rfl) (OpD.t rfl) hkl)|(exact SY.ix (R:=ZM) (_gR:=inferInstance) (k:=j) ZB9 (OpD.t rfl) (OpD.t rfl) hjl)|((first|apply SY.move|apply SY.assign|apply SY.lss|apply SY.leq|apply SY.gtr) <;> (exact oD))|((first|apply SY.add) <;> first|exact oD|omega)|(apply SY.len;(exact oD);(exact nD);(exact uD))|fail);all_goals infer_instance))));dsimp only[ZC,z0,z1])|(apply ZB;(exact oD);all_goals (intro h;try exact xD))|refine WC.skip ?_|refine WC.block ?_|refine ThenD.n ?_));all_goals (first|((repeat clear hK);(repeat clear Kx))))
        all_goals try (exfalso;first|contradiction|omega)
        (refine zNx (j+1) ?_;(try dsimp only))
        exact⟨hjl,hF⟩
       ·have h10I:(l[j].length:Int)>10:=by omega
        rw[decide_eq_false h10,Bool.false_and,Bool.false_and,Bool.false_and] at hF;subst hF;((repeat' (first|(apply WL.opN;exact yF;dsimp only[ZC,z0,z1])|refine WL.nil ?_|refine ZA fun Kx hK=>?_|(refine hK _ _ ?_;clear hK)|refine WC.region ?_|(apply ZF;(focus (first|exact wN|(apply SYG.yes;(exact wY);((first|(exact hl ▸ SY.ix (R:=Zh) (_gR:=inferInstance) (k:=k) ZAK (OpD.t rfl) (OpD.t rfl) hkl)|(exact SY.ix (R:=ZM) (_gR:=inferInstance) (k:=j) ZB9 (OpD.t rfl) (OpD.t rfl) hjl)|((first|apply SY.move|apply SY.assign|apply SY.lss|apply SY.leq|apply SY.gtr) <;> (exact oD))|(apply SY.len;(exact oD);(exact nD);(exact uD))|fail);all_goals infer_instance))));dsimp only[ZC,z0,z1])|(apply ZB;(exact oD);all_goals (intro h;try exact xD))|refine WC.skip ?_|refine WC.ret ?_|refine WC.block ?_|refine ThenD.r ?_|refine InBlockD.r ?_));all_goals (first|((repeat clear hK);(repeat clear Kx))))
        all_goals try (exfalso;first|contradiction|omega)
        (refine⟨trivial,_,rfl,?_⟩;exact fD)
      ·have hjI:¬ (j:Int)<(l.length:Int):=by omega
       rw[List.drop_of_length_le (by omega)] at hF;((repeat' (first|(apply WL.opN;exact yF;dsimp only[ZC,z0,z1])|refine WL.nil ?_|refine ZA fun Kx hK=>?_|(refine hK _ _ ?_;clear hK)|(refine Kont.skip ?_;clear hK)|refine WC.region ?_|(apply ZF;(focus (first|exact wN|(apply SYG.yes;(exact wY);((first|(exact hl ▸ SY.ix (R:=Zh) (_gR:=inferInstance) (k:=k) ZAK (OpD.t rfl) (OpD.t rfl) hkl)|((first|apply SY.move|apply SY.assign|apply SY.lss|apply SY.leq|apply SY.gtr) <;> (exact oD))|((first|apply SY.add) <;> first|exact oD|omega)|(apply SY.len;(exact oD);(exact nD);(exact uD))|fail);all_goals infer_instance))));dsimp only[ZC,z0,z1])|(apply ZB;(exact oD);all_goals (intro h;try exact xD))|refine WC.exit ?_|refine ThenD.n ?_));all_goals (first|((repeat clear hK);(repeat clear Kx))))
       all_goals try (exfalso;first|contradiction|omega)
       (refine zNx (k+1) ?_;(try dsimp only))
       exact⟨hkl,h12,hF⟩
    ·have h60I:(l.length:Int)>60:=by omega
     unfold ZNM at hE;rw[decide_eq_false h60,Bool.false_and,Bool.false_and,Bool.false_and] at hE;subst hE;((repeat' (first|(apply WL.opN;exact yF;dsimp only[ZC,z0,z1])|refine WL.nil ?_|refine ZA fun Kx hK=>?_|(refine hK _ _ ?_;clear hK)|refine WC.region ?_|(apply ZF;(focus (first|exact wN|(apply SYG.yes;(exact wY);((first|(apply SY.len;exact OpD.t rfl;exact ZB0;exact ZAK.unt)|(exact hl ▸ SY.ix (R:=Zh) (_gR:=inferInstance) (k:=k) ZAK (OpD.t rfl) (OpD.t rfl) hkl)|((first|apply SY.move|apply SY.assign|apply SY.lss|apply SY.leq|apply SY.gtr) <;> (exact oD))|(apply SY.len;(exact oD);(exact nD);(exact uD))|(apply ZZ;(exact oD);(with_reducible rfl);(exact oD))|fail);all_goals infer_instance))));dsimp only[ZC,z0,z1])|((first|refine ZK rfl rfl rfl (fun h=>?_) (fun h=>?_)|refine ZJ rfl rfl rfl (fun h=>?_) (fun h=>?_)|refine ZI rfl rfl rfl (fun h=>?_) (fun h=>?_)) <;> (first|(exfalso;first|omega|contradiction)|(dsimp only[z0,z1])))|(apply ZB;(exact oD);all_goals (intro h;try exact xD))|refine WC.skip ?_|refine WC.ret ?_|refine WC.block ?_|refine ThenD.r ?_|refine InBlockD.r ?_));all_goals (first|((repeat clear hK);(repeat clear Kx))))
     all_goals try (exfalso;first|contradiction|omega)
     (refine⟨trivial,_,rfl,?_⟩;exact fD)
   ·have h12I:¬ (k:Int)<12:=by omega
    have hL:¬ L.length≤12:=by omega
    rw[decide_eq_false hL,Bool.and_false] at hE;subst hE;((repeat' (first|(apply WL.opN;exact yF;dsimp only[ZC,z0,z1])|refine WL.nil ?_|refine ZA fun Kx hK=>?_|(refine hK _ _ ?_;clear hK)|(refine Kont.skip ?_;clear hK)|refine WC.region ?_|(apply ZF;(focus (first|exact wN|(apply SYG.yes;(exact wY);((first|(apply SY.len;exact OpD.t rfl;exact ZB0;exact ZAK.unt)|((first|apply SY.move|apply SY.assign|apply SY.lss|apply SY.leq|apply SY.gtr) <;> (exact oD))|(apply ZZ;(exact oD);(with_reducible rfl);(exact oD))|fail);all_goals infer_instance))));dsimp only[ZC,z0,z1])|((first|refine ZK rfl rfl rfl (fun h=>?_) (fun h=>?_)|refine ZJ rfl rfl rfl (fun h=>?_) (fun h=>?_)|refine ZI rfl rfl rfl (fun h=>?_) (fun h=>?_)) <;> (first|(exfalso;first|omega|contradiction)|(dsimp only[z0,z1])))|(apply ZB;(exact oD);all_goals (intro h;try exact xD))|refine WC.ret ?_|refine WC.exit ?_));all_goals (first|((repeat clear hK);(repeat clear Kx))))
    all_goals try (exfalso;first|contradiction|omega)
    (refine⟨trivial,_,rfl,?_⟩;refine FinD.b ?_)
    exact decide_eq_false (by omega)
  ·have hkI:¬ (k:Int)<(L.length:Int):=by omega
   have hL:L.length≤12:=by omega
   rw[decide_eq_true hL,Bool.and_true,List.drop_of_length_le (by rw[List.length_take];omega)] at hE;have h0:o=true:=hE.symm;subst h0;((repeat' (first|(apply WL.opN;exact yF;dsimp only[ZC,z0,z1])|refine WL.nil ?_|refine ZA fun Kx hK=>?_|(refine hK _ _ ?_;clear hK)|(refine Kont.skip ?_;clear hK)|refine WC.region ?_|(apply ZF;(focus (first|exact wN|(apply SYG.yes;(exact wY);((first|(apply SY.len;exact OpD.t rfl;exact ZB0;exact ZAK.unt)|((first|apply SY.move|apply SY.assign|apply SY.lss|apply SY.leq|apply SY.gtr) <;> (exact oD))|(apply ZY;(exact oD);(with_reducible rfl);(exact oD))|fail);all_goals infer_instance))));dsimp only[ZC,z0,z1])|((first|refine ZK rfl rfl rfl (fun h=>?_) (fun h=>?_)|refine ZJ rfl rfl rfl (fun h=>?_) (fun h=>?_)|refine ZI rfl rfl rfl (fun h=>?_) (fun h=>?_)) <;> (first|(exfalso;first|omega|contradiction)|(dsimp only[z0,z1])))|(apply ZQ;(exact oD);(with_reducible rfl))|refine WC.ret ?_|refine WC.exit ?_));all_goals (first|((repeat clear hK);(repeat clear Kx))))
   all_goals try (exfalso;first|contradiction|omega)
   (refine⟨trivial,_,rfl,?_⟩;refine FinD.b ?_)
   exact decide_eq_true (by omega)
end
section
open Go.RowKit
open C34

theorem ZGa {P:Program} {f:FuncId} {d0 d0' d1 d2 res:Dat} (h:Fn P f [d0',d1,d2] res) (hle:d0.le d0'):Fn P f [d0,d1,d2] res:=Fn.mk fun I w vs hl hv=>h.out I w vs hl fun i d hd=>by
 match i,hd with
 | 0,hd=>cases hd;exact hle _ _ _ (hv 0 d0 rfl)
 | 1,hd=>exact hv 1 _ hd
 | 2,hd=>exact hv 2 _ hd
 | i+3,hd=>simp at hd
theorem ZNt (l:Cx) (vs:List Vx) (A:List Int) (L:List Cx) (hF:ZF8 l≤400) (hLs:∀lv∈L,lv.length≤1000):Fn Tryz.prog 27 [dS CpxL l,dS Lab (vs,A),dS ZFw L] (dI (ZUo l vs A L)):=by
 unfold ZUo;by_cases h1:ZCE l vs A≠0
 ·rw[if_pos h1];exact ZGa (ZSb l vs A L h1) ZCW
 rw[if_neg h1];have h1':ZCE l vs A=0:=Classical.byContradiction h1;by_cases h2:ZG7 l L≠0
 ·rw[if_pos h2];exact ZGa (ZSc l vs A L h1' h2 fun lv h=>by have:=hLs lv h;omega) ZCW
 rw[if_neg h2];have h2':ZG7 l L=0:=Classical.byContradiction h2;by_cases h3:l=[]
 ·subst h3;exact ZGa (ZJN (S:=True) [] vs A L h1' h2' hF hLs (fun _=>by unfold ZEs;simp) (.inr trivial)) (fun I w v h=>ZFn trivial I w v (ZCW I w v h))
 ·exact ZJN (S:=False) l vs A L h1' h2' hF hLs (fun h=>h.elim) (.inl h3)
theorem ZJ7 {L:List Cx} (h:ZNO L=true):∀lv∈L,lv.length≤1000:=fun lv hlv=>by
 unfold ZNO at h;simp only[Bool.and_eq_true,decide_eq_true_eq,List.all_eq_true] at h;have h1:=h.1 lv (by rw[List.take_of_length_le h.2];exact hlv);unfold ZNM at h1;simp only[Bool.and_eq_true,decide_eq_true_eq] at h1;omega
theorem verifies34_p (l:Cx) (vs:List Vx) (A:List Int) (L:List Cx):Fn Tryz.prog 7 [dS CpxL l,dS Lab (vs,A),dS ZFw L] (dB true):=by
 have cA:=ZJt;have cF:=ZPP l [(vs,A)];have cL:=ZTp L;cases hf:ZLV l [(vs,A)] with
 | false =>
  rw[hf] at cF;(refine ZE Tryz.func7 rfl rfl ?_;simp only[Tryz.ntmps7,List.length_cons,List.length_nil,Nat.reduceAdd,Nat.reduceSub,List.replicate_succ,List.replicate_zero,List.cons_append,List.nil_append])
  ((repeat' (first|((first|apply WL.opN|apply WD.opN);exact yF;dsimp only[ZC,z0,z1])|refine WL.nil ?_|refine ZA fun Kx hK=>?_|(refine hK _ _ ?_;clear hK)|refine WC.region ?_|((first|apply ZF|apply WD.op);(focus (first|exact wN|(apply SYG.yes;(exact wY);((first|(exact SY.box (OpD.t rfl) (fun I w v h=>ZAL I w v (ZCW I w v h)))|(exact SY.box (OpD.t rfl) Z2)|(apply SY.load;exact ZAz;exact OpD.t rfl)|(exact SY.buildE (R:=Lab) (_gR:=inferInstance) (els:=[(vs,A)]) ZSt (Zo (OpD.t rfl) Zp) rfl rfl (by decide) (fun _=>Z2) (by simp))|(apply SY.call cF Tryz.call9;exact ArgsD.cons (OpD.tle rfl ZCW) (ArgsD.cons (OpD.t rfl) ArgsD.nil))|(apply SY.call (cA) Tryz.call10;(exact aD))|((first|apply SY.move|apply SY.assign|apply SY.eql|apply SY.not) <;> (exact oD))|(apply ZZ;(exact oD);(with_reducible rfl);(exact oD))|fail);all_goals infer_instance))));dsimp only[ZC,z0,z1])|((first|refine ZK rfl rfl rfl (fun h=>?_) (fun h=>?_)|refine ZJ rfl rfl rfl (fun h=>?_) (fun h=>?_)|refine ZI rfl rfl rfl (fun h=>?_) (fun h=>?_)|refine ZW rfl rfl rfl (fun h=>?_) (fun h=>?_)|refine ZU rfl rfl rfl (fun h=>?_) (fun h=>?_)|refine ZS rfl rfl rfl (fun h=>?_) (fun h=>?_)) <;> (first|(exfalso;first|omega|contradiction)|(dsimp only[z0,z1])))|(apply Zc;(exact oD);(with_reducible rfl))|refine WC.ret ?_|refine ThenD.r ?_));all_goals (first|((repeat clear hK);(repeat clear Kx))))
  all_goals try (exfalso;first|contradiction|omega)
  all_goals (refine⟨trivial,_,rfl,?_⟩;exact fD)
 | true =>
  rw[hf] at cF;cases hb:ZNO L with
  | false =>
   rw[hb] at cL;(refine ZE Tryz.func7 rfl rfl ?_;simp only[Tryz.ntmps7,List.length_cons,List.length_nil,Nat.reduceAdd,Nat.reduceSub,List.replicate_succ,List.replicate_zero,List.cons_append,List.nil_append])
   ((repeat' (first|((first|apply WL.opN|apply WD.opN);exact yF;dsimp only[ZC,z0,z1])|refine WL.nil ?_|refine ZA fun Kx hK=>?_|(refine hK _ _ ?_;clear hK)|refine WC.region ?_|((first|apply ZF|apply WD.op);(focus (first|exact wN|(apply SYG.yes;(exact wY);((first|(exact SY.box (OpD.t rfl) (fun I w v h=>ZAL I w v (ZCW I w v h)))|(exact SY.box (OpD.t rfl) Z2)|(apply SY.load;exact ZAz;exact OpD.t rfl)|(exact SY.buildE (R:=Lab) (_gR:=inferInstance) (els:=[(vs,A)]) ZSt (Zo (OpD.t rfl) Zp) rfl rfl (by decide) (fun _=>Z2) (by simp))|(exact ZDO (OpD.t rfl))|(apply SY.call cF Tryz.call9;exact ArgsD.cons (OpD.tle rfl ZCW) (ArgsD.cons (OpD.t rfl) ArgsD.nil))|(apply SY.call (cL) Tryz.call26;(exact aD))|(apply SY.call (cA) Tryz.call10;(exact aD))|((first|apply SY.move|apply SY.assign|apply SY.eql|apply SY.not) <;> (exact oD))|(apply ZY;(exact oD);(with_reducible rfl);(exact oD))|fail);all_goals infer_instance))));dsimp only[ZC,z0,z1])|(apply ZO;(exact oD);all_goals (intro h;try exact xD))|refine WC.ret ?_|refine ThenD.r ?_));all_goals (first|((repeat clear hK);(repeat clear Kx))))
   all_goals try (exfalso;first|contradiction|omega)
   all_goals (refine⟨trivial,_,rfl,?_⟩;exact fD)
  | true =>
   rw[hb] at cL;obtain⟨_,q2,q3⟩:=ZJ6 hf;have hl:=ZLW q2;have c1:=ZNt l vs A L q3 (ZJ7 hb);have c2:=ZLj l vs A L (by omega) (ZJ7 hb);generalize ZUo l vs A L=r at *;(refine ZE Tryz.func7 rfl rfl ?_;simp only[Tryz.ntmps7,List.length_cons,List.length_nil,Nat.reduceAdd,Nat.reduceSub,List.replicate_succ,List.replicate_zero,List.cons_append,List.nil_append])
   ((repeat' (first|((first|apply WL.opN|apply WD.opN);exact yF;dsimp only[ZC,z0,z1])|refine WL.nil ?_|refine WD.nil ?_|refine ZA fun Kx hK=>?_|(refine hK _ _ ?_;clear hK)|refine WC.region ?_|(apply WC.draw;kernel_rfl;kernel_rfl)|((first|apply ZF|apply WD.op);(focus (first|exact wN|(apply SYG.yes;(exact wY);((first|(exact SY.box (OpD.t rfl) (fun I w v h=>ZAL I w v (ZCW I w v h)))|(exact SY.box (OpD.t rfl) Z2)|(apply SY.load;exact tyC;exact OpD.t rfl)|(apply SY.load;exact ZAz;exact OpD.t rfl)|(exact SY.buildE (R:=Lab) (_gR:=inferInstance) (els:=[(vs,A)]) ZSt (Zo (OpD.t rfl) Zp) rfl rfl (by decide) (fun _=>Z2) (by simp))|(exact ZDO (OpD.t rfl))|(apply SY.call cF Tryz.call9;exact ArgsD.cons (OpD.tle rfl ZCW) (ArgsD.cons (OpD.t rfl) ArgsD.nil))|(apply SY.call (cL) Tryz.call26;(exact aD))|(apply SY.call (cA) Tryz.call10;(exact aD))|(apply SY.call (c1) Tryz.call27;(exact aD))|(apply SY.call c2 Tryz.call28;exact ArgsD.cons (OpD.tle rfl ZCW) (ArgsD.cons (OpD.t rfl) (ArgsD.cons (OpD.t rfl) ArgsD.nil)))|(exact ZEc (b:=true) (decide_eq_true rfl) (OpD.t rfl) (OpD.t rfl))|((first|apply SY.move|apply SY.assign|apply SY.eql|apply SY.not) <;> (exact oD))|(apply ZZ;(exact oD);(with_reducible rfl);(exact oD))|(apply ZY;(exact oD);(with_reducible rfl);(exact oD))|fail);all_goals infer_instance))));dsimp only[ZC,z0,z1])|(apply ZQ;(exact oD);(with_reducible rfl))|refine WC.skip ?_|refine WC.ret ?_));all_goals (first|((repeat clear hK);(repeat clear Kx))))
   all_goals try (exfalso;first|contradiction|omega)
   all_goals (refine⟨trivial,_,rfl,?_⟩;exact fD)
end
section
open Go.ChangeShapes Go.WideShapes Go.ChangeAt Go.RowKit
section
variable {H:Type} {enc:TypeId × Value->H}
theorem ZLO:Tryz.prog.cellsOf 25=2:=by kernel_rfl
theorem ZGo:Tryz.prog.cellsOf 23=1:=by kernel_rfl
theorem ZPm {w:World} {fuel:Nat} {v:Value} {x:DataW H × List MemPlace} (h:DataW.trod enc Tryz.prog w 0 (fun _=>true) true fuel 23 [v]=some x) :
  ∃xs,ZAR anyB w v xs:=by
 rcases Deep.open_slice1 Tryz.underlying23 ZME h with ⟨hc,_⟩|⟨a,len,cap,m,n,V,D,Pl,hc,_,hl,hm,hmm,_,hx⟩
 ·obtain rfl:v = .slice none 0 0:=by simpa using hc
  exact⟨[],ZB5⟩
 ·obtain rfl:v = .slice (some a) len cap:=by simpa using hc
  simp only[if_true] at hmm;subst hmm;have hz:∀i,∃c:Int,i<m->V i = .int .i64 c:=fun i=>by
   by_cases hi:i<m
   ·obtain⟨c,ec,_⟩:=DataW.trod_int Tryz.underlying3 (hx i hi).2;exact⟨c,fun _=>by simpa using ec⟩
   ·exact⟨0,fun h=>absurd h hi⟩
  obtain⟨z,hz⟩:=Classical.axiomOfChoice hz;have hlen:((List.range len).map z).length=len:=by simp
  refine⟨(List.range len).map z,some a,m,by rw[hlen],by rw[hlen];exact hl,hm,fun k hk=>?_⟩;rw[hlen] at hk;obtain⟨h0,_⟩:=hx k (by omega);have hs:=World.cell?_spot (hx 0 (by omega)).1;obtain⟨b,off,sp⟩:=a;obtain rfl:sp=none:=by simpa[Addr.add] using hs
  have hv:=hz k (by omega);refine⟨V k,b,off,by simpa[RI] using hv,by rw[hv];rfl,rfl,trivial,by rw[Addr.add_lit] at h0;exact h0⟩
theorem open_Lb' {w:World} {r:Reach} {b0:Nat} {v:Value} {d:DataW H} {ps:List MemPlace} (hv:Value.okWide Tryz.prog w r b0 25 v) (h:DataW.Trod enc Tryz.prog w 0 (fun _=>true) true 25 v d ps):∃x:List Vx × List Int,(dS Lab x).rd anyB w v:=by
 obtain⟨fuel,h⟩:=h;obtain⟨cs,rfl,hcs⟩:=okWide_struct Tryz.underlying25 hv;rw[ZLO] at hcs;obtain⟨u,u',rfl⟩:∃u u',cs=#[u,u']:=by
  obtain⟨l⟩:=cs
  match l,hcs with
  | [u,u'],_=>exact⟨u,u',rfl⟩
 obtain⟨y0,y1,n,hy,hl,h0,h1⟩:=trod_struct2 Tryz.underlying25 h;have h0':DataW.trod enc Tryz.prog w 0 (fun _=>true) true n 22 [u]=some y0:=by
  simpa[Value.cells,ZJy,ZGo] using h0
 have h1':DataW.trod enc Tryz.prog w 0 (fun _=>true) true n 23 [u']=some y1:=by
  simpa[Value.cells,ZJy,ZGo] using h1
 obtain⟨xs,hx⟩:=ZMd h0';obtain⟨ys,hy⟩:=ZPm h1';refine⟨(xs,ys),u,u',rfl,?_,?_,hx,hy⟩
 ·obtain⟨a,c,hu,_⟩:=hx;rw[hu];rfl
 ·obtain⟨a,c,hu,_⟩:=hy;rw[hu];rfl
end
end
section
open Go.ChangeShapes Go.WideShapes Go.ChangeAt Go.RowKit
section
variable {H:Type} {enc:TypeId × Value->H}
theorem ZVO {w:World} {fuel:Nat} {v:Value} {x:DataW H × List MemPlace} (h:DataW.trod enc Tryz.prog w 0 (fun _=>true) true fuel 54 [v]=some x) :
  ∃xs,ZFw anyB w v xs:=by
 rcases Deep.open_slice1 Tryz.underlying54 ZOx h with ⟨hc,_⟩|⟨a,len,cap,m,n,V,D,Pl,hc,_,hl,hm,hmm,_,hx⟩
 ·obtain rfl:v = .slice none 0 0:=by simpa using hc
  exact⟨[],ZB5⟩
 ·obtain rfl:v = .slice (some a) len cap:=by simpa using hc
  simp only[if_true] at hmm;subst hmm;have hz:∀i,∃xs:List (List (Int × Int)),i<m->Zh anyB w (V i) xs:=fun i=>by
   by_cases hi:i<m
   ·obtain⟨xs,h1⟩:=ZPn (hx i hi).2;exact⟨xs,fun _=>h1⟩
   ·exact⟨[],fun h=>absurd h hi⟩
  obtain⟨z,hz⟩:=Classical.axiomOfChoice hz;have hlen:((List.range len).map z).length=len:=by simp
  refine⟨(List.range len).map z,some a,m,by rw[hlen],by rw[hlen];exact hl,hm,fun k hk=>?_⟩;rw[hlen] at hk;obtain⟨h0,_⟩:=hx k (by omega);have hs:=World.cell?_spot (hx 0 (by omega)).1;obtain⟨b,off,sp⟩:=a;obtain rfl:sp=none:=by simpa[Addr.add] using hs
  have hv:=hz k (by omega);refine⟨V k,b,off,by simpa using hv,?_,rfl,trivial,by rw[Addr.add_lit] at h0;exact h0⟩;obtain⟨a',c',hv',_⟩:=hv;rw[hv'];rfl
theorem open_W' {w:World} {r:Reach} {b0:Nat} {v:Value} {d:DataW H} {ps:List MemPlace} (hv:Value.okWide Tryz.prog w r b0 54 v) (h:DataW.Trod enc Tryz.prog w 0 (fun _=>true) true 54 v d ps):∃xs,(dS ZFw xs).rd anyB w v:=by
 obtain⟨fuel,h⟩:=h;obtain⟨a,len,cap,rfl⟩:=okWide_slice Tryz.underlying54 hv;exact ZVO h
end
end
end Go.Proofs.YtofkoleingbbpaaGreatDoor
