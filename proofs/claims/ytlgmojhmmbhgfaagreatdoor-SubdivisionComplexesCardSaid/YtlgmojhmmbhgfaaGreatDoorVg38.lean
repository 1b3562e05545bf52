/- Part 38: walks by contracts, and plain laws. -/
import Derived.Test.YtlgmojhmmbhgfaaGreatDoorVg37
set_option linter.unusedVariables false
set_option linter.unusedSimpArgs false
set_option linter.unusedSectionVars false
set_option maxRecDepth 100000
set_option maxHeartbeats 4000000
namespace Go.Proofs.YtlgmojhmmbhgfaaGreatDoor
section
open Go.RowKit
section
variable {P:Program} {ops:Array Oper} {hp:List HObj} {fr:List Dat} {dst:Option Tmp} {ty:TypeId} {ps:String} {af:Array Edge} {g:Option (Nat × Bool)} {T e:TypeId} {b cap:Nat} {xs:List Vx}
theorem ZL1 {x:Operand} {j k:Nat} {c:Int} (T':TyI P T 1 false) (hx:OpD fr x (dX (.pointer (some ⟨b,j,none⟩)))) {N:Nat} (hm:hV b N cap e xs∈hp) (hj:j=k*2+1) (hk:k<xs.length) (hc:xs[k].2=c) :
  SY P ops hp ⟨dst,.load T x,ty,ps,af,g⟩ fr (dI c):=hc ▸ ZMo T' hx hm hj hk
theorem ZMp {x:Operand} {j k:Nat} {v:Vx} (T':TyI P T 2 true) (hx:OpD fr x (dX (.pointer (some ⟨b,j,none⟩)))) {N:Nat} (hm:hV b N cap e xs∈hp) (hj:j=k*2) (hk:k<xs.length) (hv:xs[k]=v) :
  SY P ops hp ⟨dst,.load T x,ty,ps,af,g⟩ fr (dS RV v):=hv ▸ ZEG T' hx hm hj hk
end

set_option maxHeartbeats 8000000 in
theorem ZLx (l:Cx) (hl:l.length≤4096) (he:ZCn l≠0):Fn Tryz.prog 31 [dS Cpx l] (dT [dS ZCb ([],[],[]),dI (ZCn l)]):=by
 refine ZAB ZAd Tryz.func31 rfl rfl ?_
 simp only [Tryz.ntmps31,List.length_cons,List.length_nil,Nat.reduceAdd,Nat.reduceSub,List.replicate_succ,List.replicate_zero,List.cons_append,List.nil_append]
 (repeat' (first|((first|apply WL.opN|apply WD.opN);exact yF;dsimp only [ZB,z0,z1])|refine WL.nil ?_|refine ZA fun Kx hK=>?_|(refine hK _ _ ?_;clear hK)|refine WC.region ?_ |  (refine WL.alloc (dst:=some 2) ZCH (Zj rfl rfl rfl) fun b2=>?_;dsimp only [ZB,z0,z1])|((first|apply WL.opN|apply WD.opN);(focus ((first|(exact SY.box (OpD.t rfl) Zt)|fail);all_goals infer_instance));dsimp only [ZB,z0,z1])|refine WC.block ?_))
 (refine WC.loopU (X:=Nat) (fun k=>[(5,dI (k:Int)),(3,dA),(16,dA),(17,dA),(18,dA),(19,dA),(20,dA),(21,dA),(22,dA),(23,dA),(24,dA),(25,dA),(26,dA),(27,dA),(28,dA),(29,dA),(30,dA)]) (fun k=>([ZQ b2 30 3 true (dX (.agg #[.slice none 0 0,.slice none 0 0,.slice none 0 0]))])) (fun k=>l.length-k) (fun k=>k≤l.length/\(l.take k).all Z0=true) 0 ?start ?frame0 ?objs0 ?round)
 case start=>exact ⟨Nat.zero_le _,rfl⟩
 case frame0=>((try dsimp only [ZK,z0,z1]);repeat (first|exact LeF.nil|refine ZD (k:=?_)))
 case objs0=>rfl
 case round =>
  rintro k ⟨k1,k2⟩
  dsimp only [ZK,z0,z1]
  by_cases hk:k<l.length
  ·have cD:=ZRj l[k]
   have hsn:(l.take (k+1)).all Z0=Z0 l[k]:=by rw [ZP hk,List.all_append,k2];simp
   cases hd:Z0 l[k] with
   | true =>
    rw [hd] at cD hsn
    ((repeat' (first|((first|apply WL.opN|apply WD.opN);exact yF;dsimp only [ZB,z0,z1])|refine WL.nil ?_|refine ZA fun Kx hK=>?_|(refine hK _ _ ?_;clear hK)|refine WC.region ?_|((first|apply WL.opN|apply WD.opN);(focus ((first|(exact ZB8 (OpD.t rfl))|(apply SY.call (cD) Tryz.call68;(exact aD))|((first|apply SY.move|apply SY.assign|apply SY.lss|apply SY.gtr|apply SY.not) <;> (exact oD))|((first|apply SY.add|apply SY.sub) <;> first|exact oD|omega)|(apply SY.len;(exact oD);(exact nD);(exact uD))|(apply ZAw;(exact eD);(exact oD);(exact oD);exact kD)|(apply Zs ZCt;exact OpD.t rfl)|fail);all_goals infer_instance));dsimp only [ZB,z0,z1])|(apply Zi;(exact oD);(with_reducible rfl))|(apply ZC;(exact oD);all_goals (intro h;try exact xD))|refine WC.skip ?_|refine WC.block ?_|refine ThenD.n ?_));all_goals (first|((repeat clear hK);(repeat clear Kx))))
    all_goals try (exfalso;first|contradiction|omega)
    (refine ⟨k+1,?_,by first|omega|(simp only;omega),rfl,?_⟩;rotate_left;((try dsimp only [ZK,z0,z1]);repeat (first|exact LeF.nil|refine ZD (k:=?_)));(try dsimp only))
    exact ⟨by omega,hsn⟩
   | false =>
    rw [hd] at cD
    have h3:ZCn l=3:=if_pos (List.all_eq_false.2 ⟨_,List.getElem_mem hk,by rw [hd];decide⟩)
    rw [h3]
    ((repeat' (first|((first|apply WL.opN|apply WD.opN);exact yF;dsimp only [ZB,z0,z1])|refine WL.nil ?_|refine ZA fun Kx hK=>?_|(refine hK _ _ ?_;clear hK)|refine WC.region ?_ |  (refine ZN ZAd rfl (OpD.t rfl) Zn ?_;dsimp only [ZB,z0,z1])|((first|apply WL.opN|apply WD.opN);(focus ((first|(apply SY.call (cD) Tryz.call68;(exact aD))|(exact ZA9)|((first|apply SY.move|apply SY.assign|apply SY.lss|apply SY.gtr|apply SY.not) <;> (exact oD))|(apply SY.len;(exact oD);(exact nD);(exact uD))|(apply ZAw;(exact eD);(exact oD);(exact oD);exact kD)|(apply Zs ZCt;exact OpD.t rfl)|fail);all_goals infer_instance));dsimp only [ZB,z0,z1])|(apply ZC;(exact oD);all_goals (intro h;try exact xD))|(apply Z7;(exact oD);all_goals (intro h;try exact xD))|refine WC.skip ?_|refine WC.ret ?_|refine WC.block ?_|refine ThenD.r ?_|refine InBlockD.r ?_));all_goals (first|((repeat clear hK);(repeat clear Kx))))
    all_goals try (exfalso;first|contradiction|omega)
    all_goals (refine ⟨trivial,⟨_,rfl,?_⟩,_,rfl,?_⟩ <;> exact fD)
  ·have hall:l.all Z0=true:=by rw [List.take_of_length_le (by omega)] at k2;exact k2
   (repeat' (first|((first|apply WL.opN|apply WD.opN);exact yF;dsimp only [ZB,z0,z1])|refine WL.nil ?_|refine ZA fun Kx hK=>?_|(refine hK _ _ ?_;clear hK)|(refine Kont.skip ?_;clear hK)|refine WC.region ?_|((first|apply WL.opN|apply WD.opN);(focus ((first|((first|apply SY.move|apply SY.assign|apply SY.lss|apply SY.gtr|apply SY.not) <;> (exact oD))|(apply SY.len;(exact oD);(exact nD);(exact uD))|(apply Zs ZCt;exact OpD.t rfl)|fail);all_goals infer_instance));dsimp only [ZB,z0,z1])|(apply ZC;(exact oD);all_goals (intro h;try exact xD))|refine WC.exit ?_|refine WC.block ?_))
   all_goals try (exfalso;first|contradiction|omega)
   (refine WC.loopU (X:=Nat) (fun j=>[(6,dI (j:Int)),(4,dI ((ZC6 (l.take j):Nat):Int)),(3,dA),(31,dA),(32,dA),(33,dA),(34,dA),(35,dA),(36,dA),(37,dA),(38,dA),(39,dA),(40,dA),(41,dA),(42,dA),(43,dA),(44,dA),(45,dA),(46,dA),(47,dA),(48,dA),(49,dA),(50,dA),(51,dA),(52,dA),(53,dA),(54,dA)]) (fun j=>([ZQ b2 30 3 true (dX (.agg #[.slice none 0 0,.slice none 0 0,.slice none 0 0]))])) (fun j=>l.length-j) (fun j=>j≤l.length/\∀ s∈l.take j,s.length≤5) 0 ?start ?frame0 ?objs0 ?round)
   case start=>exact ⟨Nat.zero_le _,by simp⟩
   case frame0=>((try dsimp only [ZK,z0,z1]);repeat (first|exact LeF.nil|refine ZD (k:=?_)))
   case objs0=>rfl
   case round =>
    rintro j ⟨j1,j2⟩
    dsimp only [ZK,z0,z1]
    have hsl:=ZPG j2
    rw [List.length_take] at hsl
    by_cases hj:j<l.length
    ·by_cases h5:5<l[j].length
     ·have h3:ZCn l=5:=by
       unfold ZCn
       rw [if_neg (by rw [hall];decide),if_pos]
       exact List.any_eq_true.2 ⟨_,List.getElem_mem hj,decide_eq_true h5⟩
      rw [h3]
      ((repeat' (first|((first|apply WL.opN|apply WD.opN);exact yF;dsimp only [ZB,z0,z1])|refine WL.nil ?_|refine ZA fun Kx hK=>?_|(refine hK _ _ ?_;clear hK)|refine WC.region ?_ |  (refine ZN ZAd rfl (OpD.t rfl) Zn ?_;dsimp only [ZB,z0,z1])|((first|apply WL.opN|apply WD.opN);(focus ((first|(exact ZA9)|((first|apply SY.move|apply SY.assign|apply SY.lss|apply SY.gtr|apply SY.not) <;> (exact oD))|(apply SY.len;(exact oD);(exact nD);(exact uD))|(apply ZAw;(exact eD);(exact oD);(exact oD);exact kD)|(apply Zs ZCt;exact OpD.t rfl)|fail);all_goals infer_instance));dsimp only [ZB,z0,z1])|(apply ZC;(exact oD);all_goals (intro h;try exact xD))|refine WC.skip ?_|refine WC.ret ?_|refine WC.block ?_|refine ThenD.r ?_|refine InBlockD.r ?_));all_goals (first|((repeat clear hK);(repeat clear Kx))))
      all_goals try (exfalso;first|contradiction|omega)
      all_goals (refine ⟨trivial,⟨_,rfl,?_⟩,_,rfl,?_⟩ <;> exact fD)
     ·have cf:=ZRp l[j].length (by omega)
      have hf5:=ZLI ⟨l[j].length,by omega⟩
      simp only at hf5
      have hsn2:((ZC6 (l.take j):Nat):Int)+((ZI6 l[j].length:Nat):Int)=((ZC6 (l.take (j+1)):Nat):Int):=by rw [ZEn hj];omega
      ((repeat' (first|((first|apply WL.opN|apply WD.opN);exact yF;dsimp only [ZB,z0,z1])|refine WL.nil ?_|refine ZA fun Kx hK=>?_|(refine hK _ _ ?_;clear hK)|refine WC.region ?_|((first|apply WL.opN|apply WD.opN);(focus ((first|(apply SY.call (cf) Tryz.call69;(exact aD))|((first|apply SY.move|apply SY.assign|apply SY.lss|apply SY.gtr|apply SY.not) <;> (exact oD))|((first|apply SY.add|apply SY.sub) <;> first|exact oD|omega)|(apply SY.len;(exact oD);(exact nD);(exact uD))|(apply ZAw;(exact eD);(exact oD);(exact oD);exact kD)|(apply Zs ZCt;exact OpD.t rfl)|fail);all_goals infer_instance));dsimp only [ZB,z0,z1])|(apply ZC;(exact oD);all_goals (intro h;try exact xD))|refine WC.skip ?_|refine WC.block ?_|refine ThenD.n ?_));all_goals (first|((repeat clear hK);(repeat clear Kx))))
      all_goals try (exfalso;first|contradiction|omega)
      rw [hsn2]
      (refine ⟨j+1,?_,by first|omega|(simp only;omega),rfl,?_⟩;rotate_left;((try dsimp only [ZK,z0,z1]);repeat (first|exact LeF.nil|refine ZD (k:=?_)));(try dsimp only))
      refine ⟨by omega,fun s hs=>?_⟩
      rw [ZP hj] at hs
      rcases List.mem_append.1 hs with q|q
      ·exact j2 s q
      ·rw [List.mem_singleton.1 q];omega
    ·rw [List.take_of_length_le (by omega)] at j2
     rw [List.take_of_length_le (show l.length≤j by omega)]
     have hno:l.any (fun s=>decide (5<s.length))=false:=List.any_eq_false.2 fun s hs=>by have:=j2 s hs;simp;omega
     have hE:ZCn l=if 4096<ZC6 l then 5 else 0:=by
      unfold ZCn
      rw [if_neg (by rw [hall];decide),if_neg (by rw [hno];decide)]
     by_cases hs:4096<ZC6 l
     ·rw [if_pos hs] at hE
      ((repeat' (first|((first|apply WL.opN|apply WD.opN);exact yF;dsimp only [ZB,z0,z1])|refine WL.nil ?_|refine ZA fun Kx hK=>?_|(refine hK _ _ ?_;clear hK)|(refine Kont.skip ?_;clear hK)|refine WC.region ?_ |  (refine ZN ZAd rfl (OpD.t rfl) Zn ?_;dsimp only [ZB,z0,z1])|((first|apply WL.opN|apply WD.opN);(focus ((first|(exact ZA9)|((first|apply SY.move|apply SY.assign|apply SY.lss|apply SY.gtr|apply SY.not) <;> (exact oD))|(apply SY.len;(exact oD);(exact nD);(exact uD))|(apply Zs ZCt;exact OpD.t rfl)|fail);all_goals infer_instance));dsimp only [ZB,z0,z1])|(apply ZC;(exact oD);all_goals (intro h;try exact xD))|refine WC.ret ?_|refine WC.exit ?_|refine ThenD.r ?_));all_goals (first|((repeat clear hK);(repeat clear Kx))))
      all_goals try (exfalso;first|contradiction|omega)
      all_goals (refine ⟨trivial,⟨_,rfl,?_⟩,_,rfl,?_⟩ <;> (first|exact fD|refine FinD.i ?_))
      all_goals rw [hE]
     ·rw [if_neg hs] at hE
      exact absurd hE he
def ZJl (l:Cx):Sub × Int:=if ZBH l≠0 then (([],[],[]),ZBH l) else ZRP l
end
end Go.Proofs.YtlgmojhmmbhgfaaGreatDoor
