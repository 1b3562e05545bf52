/- Part 5: walks by contracts, and plain laws. -/
import Derived.Test.YtofkoleingbbpaaGreatDoorXa43
import Derived.Test.YtofkoleingbbpaaGreatDoorXe4
set_option linter.unusedVariables false
set_option linter.unusedSimpArgs false
set_option linter.unusedSectionVars false
set_option maxRecDepth 100000
set_option maxHeartbeats 64000000
namespace Go.Proofs.YtofkoleingbbpaaGreatDoor
section
open Go.RowKit

def ZBt (l:Cx) (f:List Vx):Nat:=(l.filter (Z8 f)).length
theorem ZPE (l:Cx) (f:List Vx):Fn Tryz.prog 117 [dS Zh l,dS ZM f] (dI (ZBt l f:Int)):=by
 (refine ZE Tryz.func117 rfl rfl ?_;simp only[Tryz.ntmps117,List.length_cons,List.length_nil,Nat.reduceAdd,Nat.reduceSub,List.replicate_succ,List.replicate_zero,List.cons_append,List.nil_append])
 (first|refine ZR (t:=0) rfl ZEH fun hl0=>?_|refine ZR (t:=0) rfl ZDu fun hl0=>?_|refine ZR (t:=0) rfl ZJS fun hl0=>?_);simp only[maxLen] at hl0
 (repeat' (first|(apply WL.opN;exact yF;dsimp only[ZC,z0,z1])|refine WL.nil ?_|refine ZA fun Kx hK=>?_|(refine hK _ _ ?_;clear hK)|refine WC.region ?_|refine WC.block ?_))
 all_goals try (exfalso;first|contradiction|omega)
 (refine WC.loopU (X:=Nat) (fun k=>[(6,dI (k:Int)),(5,dI (ZBt (l.take k) f:Int)),(7,dA),(8,dA),(9,dA),(10,dA),(11,dA),(12,dA),(13,dA),(14,dA),(15,dA),(16,dA),(17,dA),(18,dA),(19,dA),(20,dA)]) (fun k=>[]) (fun k=>l.length-k) (fun k=>k≤l.length) 0 ?start ?frame0 ?objs0 ?round)
 case start=>exact Nat.zero_le _
 case frame0=>exact zFr
 case objs0=>rfl
 case round =>
  rintro k hk;dsimp only[ZL,z0,z1];have hcl:ZBt (l.take k) f≤k:=by
   unfold ZBt;have:=List.length_filter_le (Z8 f) (l.take k);rw[List.length_take] at this;omega
  by_cases hkl:k<l.length
  ·have hkI:(k:Int)<(l.length:Int):=by omega
   have c1:=ZEF f l[k];have hsn:=ZSu (q:=Z8 f) hkl;cases hq:Z8 f l[k] with
   | true =>
    rw[hq] at c1;have e1:(ZBt (l.take k) f:Int)+1=(ZBt (l.take (k+1)) f:Int):=by
     unfold ZBt;rw[hsn,if_pos hq,List.length_append];simp
    ((repeat' (first|(apply WL.opN;exact yF;dsimp only[ZC,z0,z1])|refine WL.nil ?_|refine ZA fun Kx hK=>?_|(refine hK _ _ ?_;clear hK)|refine WC.region ?_|(apply WL.opN;(focus ((first|(apply SY.call (c1) Tryz.call87;(exact aD))|((first|apply SY.move|apply SY.assign|apply SY.lss) <;> (exact oD))|((first|apply SY.add) <;> first|exact oD|omega)|(apply SY.len;(exact oD);(exact nD);(exact uD))|(apply SY.ix;(exact eD);(exact oD);(exact oD);exact kD)|fail);all_goals infer_instance));dsimp only[ZC,z0,z1])|(apply Zc;(exact oD);(with_reducible rfl))|(apply ZB;(exact oD);all_goals (intro h;try exact xD))|refine WC.skip ?_|refine WC.block ?_|refine ThenD.n ?_));all_goals (first|((repeat clear hK);(repeat clear Kx))))
    all_goals try (exfalso;first|contradiction|omega)
    rw[e1];(refine zNx (k+1) ?_;(try dsimp only))
    exact hkl
   | false =>
    rw[hq] at c1;have e1:ZBt (l.take k) f=ZBt (l.take (k+1)) f:=by
     unfold ZBt;rw[hsn,if_neg (by rw[hq];simp),List.append_nil]
    ((repeat' (first|(apply WL.opN;exact yF;dsimp only[ZC,z0,z1])|refine WL.nil ?_|refine ZA fun Kx hK=>?_|(refine hK _ _ ?_;clear hK)|refine WC.region ?_|(apply WL.opN;(focus ((first|(apply SY.call (c1) Tryz.call87;(exact aD))|((first|apply SY.move|apply SY.assign|apply SY.lss) <;> (exact oD))|((first|apply SY.add) <;> first|exact oD|omega)|(apply SY.len;(exact oD);(exact nD);(exact uD))|(apply SY.ix;(exact eD);(exact oD);(exact oD);exact kD)|fail);all_goals infer_instance));dsimp only[ZC,z0,z1])|(apply ZQ;(exact oD);(with_reducible rfl))|(apply ZB;(exact oD);all_goals (intro h;try exact xD))|refine WC.skip ?_|refine WC.block ?_|refine ThenD.n ?_));all_goals (first|((repeat clear hK);(repeat clear Kx))))
    all_goals try (exfalso;first|contradiction|omega)
    rw[e1];(refine zNx (k+1) ?_;(try dsimp only))
    exact hkl
  ·have hkI:¬ (k:Int)<(l.length:Int):=by omega
   obtain rfl:k=l.length:=by omega
   rw[List.take_length];((repeat' (first|(apply WL.opN;exact yF;dsimp only[ZC,z0,z1])|refine WL.nil ?_|refine ZA fun Kx hK=>?_|(refine hK _ _ ?_;clear hK)|(refine Kont.skip ?_;clear hK)|refine WC.region ?_|(apply WL.opN;(focus ((first|((first|apply SY.move|apply SY.assign|apply SY.lss) <;> (exact oD))|(apply SY.len;(exact oD);(exact nD);(exact uD))|fail);all_goals infer_instance));dsimp only[ZC,z0,z1])|(apply ZB;(exact oD);all_goals (intro h;try exact xD))|refine WC.ret ?_|refine WC.exit ?_));all_goals (first|((repeat clear hK);(repeat clear Kx))))
   all_goals try (exfalso;first|contradiction|omega)
   (refine⟨trivial,_,rfl,?_⟩;exact fD)
end
section
open Go.RowKit
abbrev CpxL:Rel (List (List Vx)):=ZSi False
variable {S:Prop}

end
section
open Go.RowKit
open C34

variable {S:Prop}
theorem ZFT (l:Cx) (vs:List Vx) (A:List Int) (h:ZCE l vs A≠0):Fn Tryz.prog 57 [dS Cpx l,dS Lab (vs,A)] (dT [dX (.agg #[.slice none 0 0,.nilFunc]),dI (ZCE l vs A)]):=by
 have c1:=ZG2 l;have c2:=ZFW vs A;refine ZCu ZBx Tryz.func57 rfl rfl ?_
 -- @kinds sperner.begin
 simp only[Tryz.ntmps57,List.length_cons,List.length_nil,Nat.reduceAdd,Nat.reduceSub,List.replicate_succ,List.replicate_zero,List.cons_append,List.nil_append];unfold ZCE at h ⊢;by_cases h1:(ZBf l).2≠0
 ·rw[if_pos h1];((repeat' (first|((first|apply WL.opN|apply WD.opN);exact yF;dsimp only[ZC,z0,z1])|refine WL.nil ?_|refine ZA fun Kx hK=>?_|(refine hK _ _ ?_;clear hK)|refine WC.region ?_ |  (refine WL.alloc (dst:=some 4) ZFJ (Zj rfl rfl) fun b4=>?_;dsimp only[ZC,z0,z1]) |  (refine ZP ZBx rfl (OpD.t rfl) (Zj rfl rfl) ?_;dsimp only[ZC,z0,z1])|((first|apply WL.opN|apply WD.opN);(focus ((first|(apply SY.call (c1) Tryz.call97;(exact aD))|(exact ZCK)|((first|apply SY.move|apply SY.assign|apply SY.neq|apply SY.not) <;> (exact oD))|(apply SY.extract;(exact oD);rfl)|(apply SY.box;(exact oD);(exact hD))|fail);all_goals infer_instance));dsimp only[ZC,z0,z1])|(apply ZG;(exact oD);all_goals (intro h;try exact xD))|refine WC.ret ?_|refine ThenD.r ?_));all_goals (first|((repeat clear hK);(repeat clear Kx))))
  all_goals try (exfalso;first|contradiction|omega)
  exact⟨trivial,⟨_,rfl,FinD.le (Dat.le_refl _)⟩,_,rfl,FinD.le (Dat.le_refl _)⟩
 have h1':(ZBf l).2=0:=Classical.byContradiction h1;rw[if_neg h1] at h ⊢;rw[h1'] at c1;by_cases h2:ZAW vs A≠0
 ·rw[if_pos h2];((repeat' (first|((first|apply WL.opN|apply WD.opN);exact yF;dsimp only[ZC,z0,z1])|refine WL.nil ?_|refine ZA fun Kx hK=>?_|(refine hK _ _ ?_;clear hK)|refine WC.region ?_ |  (refine WL.alloc (dst:=some 4) ZFJ (Zj rfl rfl) fun b4=>?_;dsimp only[ZC,z0,z1]) |  (refine ZP ZBx rfl (OpD.t rfl) (Zj rfl rfl) ?_;dsimp only[ZC,z0,z1])|((first|apply WL.opN|apply WD.opN);(focus ((first|(apply SY.call (c1) Tryz.call97;(exact aD))|(apply SY.call (c2) Tryz.call13;(exact aD))|(apply SY.load;exact ZAz;exact OpD.t rfl)|(exact ZCK)|((first|apply SY.move|apply SY.assign|apply SY.neq|apply SY.not) <;> (exact oD))|(apply SY.extract;(exact oD);rfl)|(apply SY.box;(exact oD);(exact hD))|fail);all_goals infer_instance));dsimp only[ZC,z0,z1])|(apply ZG;(exact oD);all_goals (intro h;try exact xD))|refine WC.skip ?_|refine WC.ret ?_|refine ThenD.r ?_));all_goals (first|((repeat clear hK);(repeat clear Kx))))
  all_goals try (exfalso;first|contradiction|omega)
  exact⟨trivial,⟨_,rfl,FinD.le (Dat.le_refl _)⟩,_,rfl,FinD.le (Dat.le_refl _)⟩
 have h2':ZAW vs A=0:=Classical.byContradiction h2;rw[if_neg h2] at h ⊢;rw[h2'] at c2;obtain⟨g1,g2,g3,g4,g5⟩:=ZAp h2';have c3:=ZGK l vs A g3 g2 (by omega);have h3:ZGJ l (Zd vs A)=false:=by
  cases e:ZGJ l (Zd vs A) with
  | false=>rfl
  | true=>rw[if_neg (by simp[e])] at h;exact absurd rfl h
 rw[if_pos h3];rw[h3] at c3;((repeat' (first|((first|apply WL.opN|apply WD.opN);exact yF;dsimp only[ZC,z0,z1])|refine WL.nil ?_|refine ZA fun Kx hK=>?_|(refine hK _ _ ?_;clear hK)|refine WC.region ?_ |  (refine WL.alloc (dst:=some 4) ZFJ (Zj rfl rfl) fun b4=>?_;dsimp only[ZC,z0,z1]) |  (refine ZP ZBx rfl (OpD.t rfl) (Zj rfl rfl) ?_;dsimp only[ZC,z0,z1])|((first|apply WL.opN|apply WD.opN);(focus ((first|(apply SY.call (c1) Tryz.call97;(exact aD))|(apply SY.call (c2) Tryz.call13;(exact aD))|(apply SY.call (c3) Tryz.call44;(exact aD))|(apply SY.load;exact ZAz;exact OpD.t rfl)|(exact ZCK)|((first|apply SY.move|apply SY.assign|apply SY.neq|apply SY.not) <;> (exact oD))|(apply SY.extract;(exact oD);rfl)|(apply SY.box;(exact oD);(exact hD))|fail);all_goals infer_instance));dsimp only[ZC,z0,z1])|(apply ZG;(exact oD);all_goals (intro h;try exact xD))|(apply ZO;(exact oD);all_goals (intro h;try exact xD))|refine WC.skip ?_|refine WC.ret ?_|refine ThenD.r ?_));all_goals (first|((repeat clear hK);(repeat clear Kx))))
 all_goals try (exfalso;first|contradiction|omega)
 exact⟨trivial,⟨_,rfl,FinD.le (Dat.le_refl _)⟩,_,rfl,FinD.le (Dat.le_refl _)⟩
end
section
open Go.RowKit
open C34

variable {S:Prop}
def ZUo (l:Cx) (vs:List Vx) (A:List Int) (L:List Cx):Int:=if ZCE l vs A≠0 then ZCE l vs A else if ZG7 l L≠0 then ZG7 l L else ZUY l (Zd vs A) L
theorem ZSb (l:Cx) (vs:List Vx) (A:List Int) (L:List Cx) (h:ZCE l vs A≠0):Fn Tryz.prog 27 [dS Cpx l,dS Lab (vs,A),dS ZFw L] (dI (ZCE l vs A)):=by
 have cB:=ZFT l vs A h;(refine ZE Tryz.func27 rfl rfl ?_;simp only[Tryz.ntmps27,List.length_cons,List.length_nil,Nat.reduceAdd,Nat.reduceSub,List.replicate_succ,List.replicate_zero,List.cons_append,List.nil_append])
 ((repeat' (first|((first|apply WL.opN|apply WD.opN);exact yF;dsimp only[ZC,z0,z1])|refine WL.nil ?_|refine ZA fun Kx hK=>?_|(refine hK _ _ ?_;clear hK)|refine WC.region ?_ |  (refine WL.alloc (dst:=some 7) ZFJ (Zj rfl rfl) fun b9=>?_;dsimp only[ZC,z0,z1]) |  (refine ZP ZBx rfl (OpD.t rfl) (Zj rfl rfl) ?_;dsimp only[ZC,z0,z1])|((first|apply WL.opN|apply WD.opN);(focus ((first|(apply SY.load;exact ZAz;exact OpD.t rfl)|(apply SY.call (cB) Tryz.call57;(exact aD))|((first|apply SY.move|apply SY.assign|apply SY.lss|apply SY.gtr|apply SY.eql|apply SY.neq|apply SY.not) <;> (exact oD))|(apply SY.extract;(exact oD);rfl)|(apply SY.box;(exact oD);(exact hD))|fail);all_goals infer_instance));dsimp only[ZC,z0,z1])|(apply ZG;(exact oD);all_goals (intro h;try exact xD))|refine WC.ret ?_|refine ThenD.r ?_));all_goals (first|((repeat clear hK);(repeat clear Kx))))
 all_goals try (exfalso;first|contradiction|omega)
 (refine⟨trivial,_,rfl,?_⟩;exact fD)
theorem ZSc (l:Cx) (vs:List Vx) (A:List Int) (L:List Cx) (h:ZCE l vs A=0) (hfr:ZG7 l L≠0) (hLs:∀lv∈L,lv.length≤1000000):Fn Tryz.prog 27 [dS Cpx l,dS Lab (vs,A),dS ZFw L] (dI (ZG7 l L)):=by
 have cB:=ZGG l vs A h;have cF:=ZH1 l (Zd vs A) L (ZBI (ZD8 h)).1 hLs;(refine ZE Tryz.func27 rfl rfl ?_;simp only[Tryz.ntmps27,List.length_cons,List.length_nil,Nat.reduceAdd,Nat.reduceSub,List.replicate_succ,List.replicate_zero,List.cons_append,List.nil_append])
 ((repeat' (first|((first|apply WL.opN|apply WD.opN);exact yF;dsimp only[ZC,z0,z1])|refine WL.nil ?_|refine ZA fun Kx hK=>?_|(refine hK _ _ ?_;clear hK)|refine WC.region ?_ |  (refine WL.alloc (dst:=some 7) ZFJ (Zj rfl rfl) fun b9=>?_;dsimp only[ZC,z0,z1]) |  (refine ZP ZBx rfl (OpD.t rfl) (ZAD (n:=2) (by decide) rfl) ?_;dsimp only[ZC,z0,z1])|((first|apply WL.opN|apply WD.opN);(focus ((first|(apply SY.load;exact ZAz;exact OpD.t rfl)|(apply SY.load;exact ZBx;exact OpD.t rfl)|(apply SY.call (cB) Tryz.call57;(exact aD))|(apply SY.call (cF) Tryz.call67;(exact aD))|((first|apply SY.move|apply SY.assign|apply SY.lss|apply SY.gtr|apply SY.eql|apply SY.neq|apply SY.not) <;> (exact oD))|(apply SY.extract;(exact oD);rfl)|(apply SY.box;(exact oD);(exact hD))|fail);all_goals infer_instance));dsimp only[ZC,z0,z1])|(apply ZG;(exact oD);all_goals (intro h;try exact xD))|refine WC.skip ?_|refine WC.ret ?_|refine ThenD.r ?_));all_goals (first|((repeat clear hK);(repeat clear Kx))))
 all_goals try (exfalso;first|contradiction|omega)
 (refine⟨trivial,_,rfl,?_⟩;exact fD)
end
section
open Go.RowKit

theorem ZRq (l:Cx) (L:List Cx) (hLv:∀lv∈L,lv.length≤1000000):Fn Tryz.prog 71 [dS Cpx l,dS ZFw L] (dI (ZG7 l L)):=by
 obtain⟨o,ho⟩:∃o,ZG7 l L=o:=⟨_,rfl⟩;rw[ho];unfold ZG7 at ho;(refine ZE Tryz.func71 rfl rfl ?_;simp only[Tryz.ntmps71,List.length_cons,List.length_nil,Nat.reduceAdd,Nat.reduceSub,List.replicate_succ,List.replicate_zero,List.cons_append,List.nil_append])
 (first|refine ZR (t:=1) rfl ZEH fun hl1=>?_|refine ZR (t:=1) rfl ZDu fun hl1=>?_|refine ZR (t:=1) rfl ZJS fun hl1=>?_);simp only[maxLen] at hl1
 by_cases hb:L.length<1\/8<L.length
 ·rw[if_pos hb] at ho;subst ho;by_cases h0:L.length<1
  ·have h0I:(L.length:Int)<1:=by omega
   ((repeat' (first|(apply WL.opN;exact yF;dsimp only[ZC,z0,z1])|refine WL.nil ?_|refine ZA fun Kx hK=>?_|(refine hK _ _ ?_;clear hK)|refine WC.region ?_|(apply ZF;(focus (first|exact wN|(apply SYG.yes;(exact wY);((first|(exact SY.box (OpD.t rfl) ZAL)|(apply SY.len;exact OpD.t rfl;exact ZB0;exact ZAK.unt)|((first|apply SY.move|apply SY.assign|apply SY.lss|apply SY.gtr|apply SY.geq|apply SY.neq|apply SY.not) <;> (exact oD))|(apply ZZ;(exact oD);(with_reducible rfl);(exact oD))|fail);all_goals infer_instance))));dsimp only[ZC,z0,z1])|((first|refine ZK rfl rfl rfl (fun h=>?_) (fun h=>?_)|refine ZJ rfl rfl rfl (fun h=>?_) (fun h=>?_)|refine ZI rfl rfl rfl (fun h=>?_) (fun h=>?_)) <;> (first|(exfalso;first|omega|contradiction)|(dsimp only[z0,z1])))|(apply Zc;(exact oD);(with_reducible rfl))|refine WC.ret ?_|refine ThenD.r ?_));all_goals (first|((repeat clear hK);(repeat clear Kx))))
   all_goals try (exfalso;first|contradiction|omega)
   (refine⟨trivial,_,rfl,?_⟩;exact fD)
  ·have h0I:(L.length:Int)>8:=by omega
   ((repeat' (first|(apply WL.opN;exact yF;dsimp only[ZC,z0,z1])|refine WL.nil ?_|refine ZA fun Kx hK=>?_|(refine hK _ _ ?_;clear hK)|refine WC.region ?_|(apply ZF;(focus (first|exact wN|(apply SYG.yes;(exact wY);((first|(exact SY.box (OpD.t rfl) ZAL)|(apply SY.len;exact OpD.t rfl;exact ZB0;exact ZAK.unt)|((first|apply SY.move|apply SY.assign|apply SY.lss|apply SY.gtr|apply SY.geq|apply SY.neq|apply SY.not) <;> (exact oD))|(apply ZY;(exact oD);(with_reducible rfl);(exact oD))|fail);all_goals infer_instance))));dsimp only[ZC,z0,z1])|((first|refine ZK rfl rfl rfl (fun h=>?_) (fun h=>?_)|refine ZJ rfl rfl rfl (fun h=>?_) (fun h=>?_)|refine ZI rfl rfl rfl (fun h=>?_) (fun h=>?_)) <;> (first|(exfalso;first|omega|contradiction)|(dsimp only[z0,z1])))|(apply ZB;(exact oD);all_goals (intro h;try exact xD))|refine WC.ret ?_|refine ThenD.r ?_));all_goals (first|((repeat clear hK);(repeat clear Kx))))
   all_goals try (exfalso;first|contradiction|omega)
   (refine⟨trivial,_,rfl,?_⟩;exact fD)
 rw[if_neg hb] at ho;have hb1:¬ (L.length:Int)<1:=by omega
 have hb8:¬ (L.length:Int)>8:=by omega
 (repeat' (first|(apply WL.opN;exact yF;dsimp only[ZC,z0,z1])|refine WL.nil ?_|refine ZA fun Kx hK=>?_|(refine hK _ _ ?_;clear hK)|refine WC.region ?_|(apply ZF;(focus (first|exact wN|(apply SYG.yes;(exact wY);((first|(exact SY.box (OpD.t rfl) ZAL)|(apply SY.len;exact OpD.t rfl;exact ZB0;exact ZAK.unt)|((first|apply SY.move|apply SY.assign|apply SY.lss|apply SY.gtr|apply SY.geq|apply SY.neq|apply SY.not) <;> (exact oD))|(apply ZY;(exact oD);(with_reducible rfl);(exact oD))|fail);all_goals infer_instance))));dsimp only[ZC,z0,z1])|((first|refine ZK rfl rfl rfl (fun h=>?_) (fun h=>?_)|refine ZJ rfl rfl rfl (fun h=>?_) (fun h=>?_)|refine ZI rfl rfl rfl (fun h=>?_) (fun h=>?_)) <;> (first|(exfalso;first|omega|contradiction)|(dsimp only[z0,z1])))|(apply ZB;(exact oD);all_goals (intro h;try exact xD))|refine WC.skip ?_|refine WC.block ?_))
 all_goals try (exfalso;first|contradiction|omega)
 (refine WC.loopU (X:=Nat) (fun k=>[(5,dI (k:Int)),(4,dA),(6,dA),(7,dA),(8,dA),(17,dA),(18,dA),(19,dA),(20,dA),(21,dA),(22,dA),(23,dA),(24,dA),(25,dA),(26,dA),(27,dA),(28,dA),(29,dA),(30,dA),(31,dA),(32,dA),(33,dA),(34,dA),(35,dA),(36,dA),(37,dA),(38,dA),(39,dA),(40,dA),(41,dA),(42,dA),(43,dA),(44,dA),(45,dA),(46,dA),(47,dA),(48,dA),(49,dA),(50,dA),(51,dA),(52,dA),(53,dA),(54,dA),(55,dA),(56,dA),(57,dA),(58,dA),(59,dA),(60,dA),(61,dA),(62,dA),(63,dA),(64,dA),(65,dA),(66,dA),(67,dA)]) (fun k=>[]) (fun k=>L.length-k) (fun k=>k≤L.length/\ZQq l k (L.drop k)=o) 0 ?start ?frame0 ?objs0 ?round)
 case start=>exact⟨Nat.zero_le _,ho⟩
 case frame0=>exact zFr
 case objs0=>rfl
 case round =>
  rintro k ⟨hk,hE⟩;dsimp only[ZL,z0,z1];by_cases hkl:k<L.length
  ·have hkI:(k:Int)<(L.length:Int):=by omega
   have hk8:(k:Int)≤8:=by omega
   rw[ZKD hkl] at hE;have hlvb:=hLv _ (List.getElem_mem hkl);obtain⟨lv,hlv⟩:∃lv,L[k]=lv:=⟨_,rfl⟩;rw[hlv] at hlvb;rw[hlv] at hE;(repeat' (first|(apply WL.opN;exact yF;dsimp only[ZC,z0,z1])|refine WL.nil ?_|refine ZA fun Kx hK=>?_|(refine hK _ _ ?_;clear hK)|refine WC.region ?_|(apply ZF;(focus (first|exact wN|(apply SYG.yes;(exact wY);((first|(apply SY.len;exact OpD.t rfl;exact ZB0;exact ZAK.unt)|((first|apply SY.move|apply SY.assign|apply SY.lss|apply SY.gtr|apply SY.geq|apply SY.neq|apply SY.not) <;> (exact oD))|fail);all_goals infer_instance))));dsimp only[ZC,z0,z1])|(apply ZB;(exact oD);all_goals (intro h;try exact xD))|refine WC.skip ?_|refine WC.block ?_))
   all_goals try (exfalso;first|contradiction|omega)
   (refine WC.loopU (X:=Nat) (fun i=>[(6,dI (i:Int)),(4,dA),(7,dA),(8,dA),(23,dA),(24,dA),(25,dA),(26,dA),(27,dA),(28,dA),(29,dA),(30,dA),(31,dA),(32,dA),(33,dA),(34,dA),(35,dA),(36,dA),(37,dA),(38,dA),(39,dA),(40,dA),(41,dA),(42,dA),(43,dA),(44,dA),(45,dA),(46,dA),(47,dA),(48,dA),(49,dA),(50,dA),(51,dA),(52,dA),(53,dA),(54,dA),(55,dA),(56,dA),(57,dA),(58,dA),(59,dA),(60,dA),(61,dA),(62,dA),(63,dA),(64,dA),(65,dA),(66,dA),(67,dA)]) (fun i=>[]) (fun i=>lv.length-i) (fun i=>i≤lv.length/\(if ZIi l k (ZDZ lv i) (lv.drop i)≠0 then ZIi l k (ZDZ lv i) (lv.drop i) else ZQq l (k+1) (L.drop (k+1)))=o) 0 ?start ?frame0 ?objs0 ?round)
   case start=>exact⟨Nat.zero_le _,hE⟩
   case frame0=>exact zFr
   case objs0=>rfl
   case round =>
    rintro i ⟨hi,hG⟩;dsimp only[ZL,z0,z1];by_cases hil:i<lv.length
    ·have hiI:(i:Int)<(lv.length:Int):=by omega
     have c1:=ZRc lv[i];rw[ZKE hil] at hG;by_cases h1:ZAC lv[i]≠0
     ·rw[if_pos h1,if_pos h1] at hG;subst hG;((repeat' (first|(apply WL.opN;exact yF;dsimp only[ZC,z0,z1])|refine WL.nil ?_|refine ZA fun Kx hK=>?_|(refine hK _ _ ?_;clear hK)|refine WC.region ?_|(apply ZF;(focus (first|exact wN|(apply SYG.yes;(exact wY);((first|(refine Z6 (D:=fun z=>dP 1 false (dS Zh z)) hlv (SY.ix (R:=Zh) (_gR:=inferInstance) (k:=k) ZAK (OpD.t rfl) (OpD.t rfl) hkl))|(refine SY.ix (R:=ZM) (_gR:=inferInstance) (k:=i) ZB9 (OpD.t rfl) (OpD.t rfl) hil)|(apply SY.call (c1) Tryz.call53;(exact aD))|((first|apply SY.move|apply SY.assign|apply SY.lss|apply SY.gtr|apply SY.geq|apply SY.neq|apply SY.not) <;> (exact oD))|(apply SY.len;(exact oD);(exact nD);(exact uD))|fail);all_goals infer_instance))));dsimp only[ZC,z0,z1])|(apply ZB;(exact oD);all_goals (intro h;try exact xD))|(apply ZG;(exact oD);all_goals (intro h;try exact xD))|refine WC.skip ?_|refine WC.ret ?_|refine WC.block ?_|refine ThenD.r ?_|refine InBlockD.r ?_));all_goals (first|((repeat clear hK);(repeat clear Kx))))
      all_goals try (exfalso;first|contradiction|omega)
      (refine⟨trivial,_,rfl,?_⟩;exact fD)
     have h1':ZAC lv[i]=0:=Classical.byContradiction h1;rw[h1'] at c1;rw[if_neg h1] at hG;by_cases h2:lv[i].length≠k+1
     ·have h2I:(lv[i].length:Int)≠(k:Int)+1:=by omega
      rw[if_pos h2,if_pos (by decide)] at hG;subst hG;((repeat' (first|(apply WL.opN;exact yF;dsimp only[ZC,z0,z1])|refine WL.nil ?_|refine ZA fun Kx hK=>?_|(refine hK _ _ ?_;clear hK)|refine WC.region ?_|(apply ZF;(focus (first|exact wN|(apply SYG.yes;(exact wY);((first|(refine Z6 (D:=fun z=>dP 1 false (dS Zh z)) hlv (SY.ix (R:=Zh) (_gR:=inferInstance) (k:=k) ZAK (OpD.t rfl) (OpD.t rfl) hkl))|(refine SY.ix (R:=ZM) (_gR:=inferInstance) (k:=i) ZB9 (OpD.t rfl) (OpD.t rfl) hil)|(apply SY.call (c1) Tryz.call53;(exact aD))|((first|apply SY.move|apply SY.assign|apply SY.lss|apply SY.gtr|apply SY.geq|apply SY.neq|apply SY.not) <;> (exact oD))|((first|apply SY.add|apply SY.sub) <;> first|exact oD|omega)|(apply SY.len;(exact oD);(exact nD);(exact uD))|fail);all_goals infer_instance))));dsimp only[ZC,z0,z1])|(apply ZB;(exact oD);all_goals (intro h;try exact xD))|(apply ZG;(exact oD);all_goals (intro h;try exact xD))|refine WC.skip ?_|refine WC.ret ?_|refine WC.block ?_|refine ThenD.r ?_|refine InBlockD.r ?_));all_goals (first|((repeat clear hK);(repeat clear Kx))))
      all_goals try (exfalso;first|contradiction|omega)
      (refine⟨trivial,_,rfl,?_⟩;exact fD)
     have h2I:¬ (lv[i].length:Int)≠(k:Int)+1:=by omega
     rw[if_neg h2] at hG;have c2:=ZTt l lv[i];by_cases h3:ZBm l lv[i]=false
     ·rw[if_pos h3,if_pos (by decide)] at hG;rw[h3] at c2;subst hG;((repeat' (first|(apply WL.opN;exact yF;dsimp only[ZC,z0,z1])|refine WL.nil ?_|refine ZA fun Kx hK=>?_|(refine hK _ _ ?_;clear hK)|refine WC.region ?_|(apply ZF;(focus (first|exact wN|(apply SYG.yes;(exact wY);((first|(refine Z6 (D:=fun z=>dP 1 false (dS Zh z)) hlv (SY.ix (R:=Zh) (_gR:=inferInstance) (k:=k) ZAK (OpD.t rfl) (OpD.t rfl) hkl))|(refine SY.ix (R:=ZM) (_gR:=inferInstance) (k:=i) ZB9 (OpD.t rfl) (OpD.t rfl) hil)|(apply SY.call (c1) Tryz.call53;(exact aD))|(apply SY.call (c2) Tryz.call95;(exact aD))|((first|apply SY.move|apply SY.assign|apply SY.lss|apply SY.gtr|apply SY.geq|apply SY.neq|apply SY.not) <;> (exact oD))|((first|apply SY.add|apply SY.sub) <;> first|exact oD|omega)|(apply SY.len;(exact oD);(exact nD);(exact uD))|fail);all_goals infer_instance))));dsimp only[ZC,z0,z1])|(apply ZB;(exact oD);all_goals (intro h;try exact xD))|(apply ZG;(exact oD);all_goals (intro h;try exact xD))|(apply ZO;(exact oD);all_goals (intro h;try exact xD))|refine WC.skip ?_|refine WC.ret ?_|refine WC.block ?_|refine ThenD.r ?_|refine InBlockD.r ?_));all_goals (first|((repeat clear hK);(repeat clear Kx))))
      all_goals try (exfalso;first|contradiction|omega)
      (refine⟨trivial,_,rfl,?_⟩;exact fD)
     have h3':ZBm l lv[i]=true:=by simpa using h3
     rw[if_neg h3] at hG;rw[h3'] at c2;by_cases h0:i=0
     ·subst h0;rw[if_neg (show ¬ ZNR (ZDZ lv 0) lv[0]=true by simp[ZDZ,ZNR])] at hG;((repeat' (first|(apply WL.opN;exact yF;dsimp only[ZC,z0,z1])|refine WL.nil ?_|refine ZA fun Kx hK=>?_|(refine hK _ _ ?_;clear hK)|refine WC.region ?_|(apply ZF;(focus (first|exact wN|(apply SYG.yes;(exact wY);((first|(refine Z6 (D:=fun z=>dP 1 false (dS Zh z)) hlv (SY.ix (R:=Zh) (_gR:=inferInstance) (k:=k) ZAK (OpD.t rfl) (OpD.t rfl) hkl))|(apply SY.call (c1) Tryz.call53;(exact aD))|(apply SY.call (c2) Tryz.call95;(exact aD))|((first|apply SY.move|apply SY.assign|apply SY.lss|apply SY.gtr|apply SY.geq|apply SY.neq|apply SY.not) <;> (exact oD))|((first|apply SY.add|apply SY.sub) <;> first|exact oD|omega)|(apply SY.len;(exact oD);(exact nD);(exact uD))|(apply SY.ix;(exact eD);(exact oD);(exact oD);exact kD)|(apply ZY;(exact oD);(with_reducible rfl);(exact oD))|fail);all_goals infer_instance))));dsimp only[ZC,z0,z1])|((first|refine ZK rfl rfl rfl (fun h=>?_) (fun h=>?_)|refine ZJ rfl rfl rfl (fun h=>?_) (fun h=>?_)|refine ZI rfl rfl rfl (fun h=>?_) (fun h=>?_)) <;> (first|(exfalso;first|omega|contradiction)|(dsimp only[z0,z1])))|(apply ZQ;(exact oD);(with_reducible rfl))|(apply ZB;(exact oD);all_goals (intro h;try exact xD))|(apply ZG;(exact oD);all_goals (intro h;try exact xD))|(apply ZO;(exact oD);all_goals (intro h;try exact xD))|refine WC.skip ?_|refine WC.block ?_|refine ThenD.n ?_));all_goals (first|((repeat clear hK);(repeat clear Kx))))
      all_goals try (exfalso;first|contradiction|omega)
      (refine zNx (0+1) ?_;(try dsimp only))
      exact⟨hil,hG⟩
     ·have h0I:(i:Int)>0:=by omega
      have hpv:ZDZ lv i=some (lv[i-1]'(by omega)):=by
       unfold ZDZ;rw[if_neg h0,List.getElem?_eq_getElem]
      have c3:=ZHv (lv[i-1]'(by omega)) lv[i];rw[hpv] at hG;by_cases h4:0≤ZAb (lv[i-1]'(by omega)) lv[i]
      ·rw[if_pos (show ZNR (some (lv[i-1]'(by omega))) lv[i]=true from decide_eq_true h4),if_pos (by decide)] at hG;subst hG;((repeat' (first|(apply WL.opN;exact yF;dsimp only[ZC,z0,z1])|refine WL.nil ?_|refine ZA fun Kx hK=>?_|(refine hK _ _ ?_;clear hK)|refine WC.region ?_|(apply ZF;(focus (first|exact wN|(apply SYG.yes;(exact wY);((first|(refine Z6 (D:=fun z=>dP 1 false (dS Zh z)) hlv (SY.ix (R:=Zh) (_gR:=inferInstance) (k:=k) ZAK (OpD.t rfl) (OpD.t rfl) hkl))|(apply SY.load;exact ZQv;exact OpD.t rfl)|(apply SY.load;exact ZSX;exact OpD.t rfl)|(refine SY.ix (R:=ZM) (_gR:=inferInstance) (k:=i) ZB9 (OpD.t rfl) (OpD.t rfl) hil)|(apply SY.call (c1) Tryz.call53;(exact aD))|(apply SY.call (c2) Tryz.call95;(exact aD))|(refine SY.ix (R:=ZM) (_gR:=inferInstance) (k:=i-1) ZB9 (OpD.t rfl) (OpD.tle rfl (ZBv (by omega))) (by omega))|(apply SY.call (c3) Tryz.call77;(exact aD))|((first|apply SY.move|apply SY.assign|apply SY.lss|apply SY.gtr|apply SY.geq|apply SY.neq|apply SY.not) <;> (exact oD))|((first|apply SY.add|apply SY.sub) <;> first|exact oD|omega)|(apply SY.len;(exact oD);(exact nD);(exact uD))|(apply ZZ;(exact oD);(with_reducible rfl);(exact oD))|fail);all_goals infer_instance))));dsimp only[ZC,z0,z1])|((first|refine ZK rfl rfl rfl (fun h=>?_) (fun h=>?_)|refine ZJ rfl rfl rfl (fun h=>?_) (fun h=>?_)|refine ZI rfl rfl rfl (fun h=>?_) (fun h=>?_)) <;> (first|(exfalso;first|omega|contradiction)|(dsimp only[z0,z1])))|(apply ZB;(exact oD);all_goals (intro h;try exact xD))|(apply ZG;(exact oD);all_goals (intro h;try exact xD))|(apply ZO;(exact oD);all_goals (intro h;try exact xD))|refine WC.skip ?_|refine WC.ret ?_|refine WC.block ?_|refine ThenD.r ?_|refine InBlockD.r ?_));all_goals (first|((repeat clear hK);(repeat clear Kx))))
       all_goals try (exfalso;first|contradiction|omega)
       (refine⟨trivial,_,rfl,?_⟩;exact fD)
      ·rw[if_neg (show ¬ ZNR (some (lv[i-1]'(by omega))) lv[i]=true by simpa[ZNR] using h4)] at hG;((repeat' (first|(apply WL.opN;exact yF;dsimp only[ZC,z0,z1])|refine WL.nil ?_|refine ZA fun Kx hK=>?_|(refine hK _ _ ?_;clear hK)|refine WC.region ?_|(apply ZF;(focus (first|exact wN|(apply SYG.yes;(exact wY);((first|(refine Z6 (D:=fun z=>dP 1 false (dS Zh z)) hlv (SY.ix (R:=Zh) (_gR:=inferInstance) (k:=k) ZAK (OpD.t rfl) (OpD.t rfl) hkl))|(apply SY.load;exact ZQv;exact OpD.t rfl)|(apply SY.load;exact ZSX;exact OpD.t rfl)|(refine SY.ix (R:=ZM) (_gR:=inferInstance) (k:=i) ZB9 (OpD.t rfl) (OpD.t rfl) hil)|(apply SY.call (c1) Tryz.call53;(exact aD))|(apply SY.call (c2) Tryz.call95;(exact aD))|(refine SY.ix (R:=ZM) (_gR:=inferInstance) (k:=i-1) ZB9 (OpD.t rfl) (OpD.tle rfl (ZBv (by omega))) (by omega))|(apply SY.call (c3) Tryz.call77;(exact aD))|((first|apply SY.move|apply SY.assign|apply SY.lss|apply SY.gtr|apply SY.geq|apply SY.neq|apply SY.not) <;> (exact oD))|((first|apply SY.add|apply SY.sub) <;> first|exact oD|omega)|(apply SY.len;(exact oD);(exact nD);(exact uD))|(apply ZZ;(exact oD);(with_reducible rfl);(exact oD))|fail);all_goals infer_instance))));dsimp only[ZC,z0,z1])|((first|refine ZK rfl rfl rfl (fun h=>?_) (fun h=>?_)|refine ZJ rfl rfl rfl (fun h=>?_) (fun h=>?_)|refine ZI rfl rfl rfl (fun h=>?_) (fun h=>?_)) <;> (first|(exfalso;first|omega|contradiction)|(dsimp only[z0,z1])))|(apply ZB;(exact oD);all_goals (intro h;try exact xD))|(apply ZG;(exact oD);all_goals (intro h;try exact xD))|(apply ZO;(exact oD);all_goals (intro h;try exact xD))|refine WC.skip ?_|refine WC.block ?_|refine ThenD.n ?_));all_goals (first|((repeat clear hK);(repeat clear Kx))))
       all_goals try (exfalso;first|contradiction|omega)
       (refine zNx (i+1) ?_;(try dsimp only))
       exact⟨hil,hG⟩
    ·have hiI:¬ (i:Int)<(lv.length:Int):=by omega
     rw[List.drop_of_length_le (by omega),show ZIi l k (ZDZ lv i) []=0 by unfold ZIi;rfl,if_neg (by simp)] at hG;((repeat' (first|(apply WL.opN;exact yF;dsimp only[ZC,z0,z1])|refine WL.nil ?_|refine ZA fun Kx hK=>?_|(refine hK _ _ ?_;clear hK)|(refine Kont.skip ?_;clear hK)|refine WC.region ?_|(apply ZF;(focus (first|exact wN|(apply SYG.yes;(exact wY);((first|(refine Z6 (D:=fun z=>dP 1 false (dS Zh z)) hlv (SY.ix (R:=Zh) (_gR:=inferInstance) (k:=k) ZAK (OpD.t rfl) (OpD.t rfl) hkl))|((first|apply SY.move|apply SY.assign|apply SY.lss|apply SY.gtr|apply SY.geq|apply SY.neq|apply SY.not) <;> (exact oD))|((first|apply SY.add|apply SY.sub) <;> first|exact oD|omega)|(apply SY.len;(exact oD);(exact nD);(exact uD))|fail);all_goals infer_instance))));dsimp only[ZC,z0,z1])|(apply ZB;(exact oD);all_goals (intro h;try exact xD))|refine WC.exit ?_|refine ThenD.n ?_));all_goals (first|((repeat clear hK);(repeat clear Kx))))
     all_goals try (exfalso;first|contradiction|omega)
     (refine zNx (k+1) ?_;(try dsimp only))
     exact⟨hkl,hG⟩
  ·have hkI:¬ (k:Int)<(L.length:Int):=by omega
   rw[List.drop_of_length_le (by omega)] at hE;have h0:o=0:=by rw[<- hE];rfl
   subst h0;((repeat' (first|(apply WL.opN;exact yF;dsimp only[ZC,z0,z1])|refine WL.nil ?_|refine ZA fun Kx hK=>?_|(refine hK _ _ ?_;clear hK)|(refine Kont.skip ?_;clear hK)|refine WC.region ?_|(apply ZF;(focus (first|exact wN|(apply SYG.yes;(exact wY);((first|(apply SY.len;exact OpD.t rfl;exact ZB0;exact ZAK.unt)|((first|apply SY.move|apply SY.assign|apply SY.lss|apply SY.gtr|apply SY.geq|apply SY.neq|apply SY.not) <;> (exact oD))|fail);all_goals infer_instance))));dsimp only[ZC,z0,z1])|(apply ZB;(exact oD);all_goals (intro h;try exact xD))|refine WC.ret ?_|refine WC.exit ?_));all_goals (first|((repeat clear hK);(repeat clear Kx))))
   all_goals try (exfalso;first|contradiction|omega)
   (refine⟨trivial,_,rfl,?_⟩;exact fD)
end
end Go.Proofs.YtofkoleingbbpaaGreatDoor
