/- Part 5: walks by contracts, and plain laws. -/
import Derived.Test.YtofkoleingbbpaaGreatDoorWf4
set_option linter.unusedVariables false
set_option linter.unusedSimpArgs false
set_option linter.unusedSectionVars false
set_option maxRecDepth 100000
set_option maxHeartbeats 4000000
namespace Go.Proofs.YtofkoleingbbpaaGreatDoor
section
open Go.RowKit
open C34

set_option maxHeartbeats 16000000 in
theorem proves34L_p (l:Cx) (vs:List Vx) (A:List Int) (n:List Int):Fn Tryz.prog 8 [dS CpxL l,dS Lab (vs,A),dS ZWb n] (dB true):=by
 have cA:=ZEp
 have cF:=ZJz l [(vs,A)]
 have cK:=ZET vs A
 cases hf:ZJy l [(vs,A)] with
 | false =>
  rw [hf] at cF
  (refine ZE Tryz.func8 rfl rfl ?_;simp only [Tryz.ntmps8,List.length_cons,List.length_nil,Nat.reduceAdd,Nat.reduceSub,List.replicate_succ,List.replicate_zero,List.cons_append,List.nil_append])
  ((repeat' (first|(apply WL.opN;exact yF;dsimp only [ZC,z0,z1])|refine WL.nil ?_|refine ZA fun Kx hK=>?_|(refine hK _ _ ?_;clear hK)|refine WC.region ?_|(apply ZF;(focus (first|exact wN|(apply SYG.yes;(exact wY);((first|(exact SY.box (OpD.t rfl) (fun I w v h=>ZAD I w v (ZBR I w v h)))|(exact SY.box (OpD.t rfl) Zq)|(apply SY.load;exact ZAI;exact OpD.t rfl)|(exact SY.buildE (R:=Lab) (_gR:=inferInstance) (els:=[(vs,A)]) ZNf (Zk (OpD.t rfl) Zl) rfl rfl (by decide) (fun _=>Zq) (by simp))|(apply SY.call cF Tryz.call9;exact ArgsD.cons (OpD.tle rfl ZBR) (ArgsD.cons (OpD.t rfl) ArgsD.nil))|(apply SY.call (cA) Tryz.call10;(exact aD))|((first|apply SY.move|apply SY.assign|apply SY.lss|apply SY.gtr|apply SY.eql|apply SY.neq|apply SY.not) <;> (exact oD))|(apply ZY;(exact oD);(with_reducible rfl);(exact oD))|fail);all_goals infer_instance))));dsimp only [ZC,z0,z1])|((first|refine ZJ rfl rfl rfl (fun h=>?_) (fun h=>?_)|refine ZI rfl rfl rfl (fun h=>?_) (fun h=>?_)|refine ZH rfl rfl rfl (fun h=>?_) (fun h=>?_)) <;> (first|(exfalso;first|omega|contradiction)|(dsimp only [z0,z1])))|(apply Zb;(exact oD);(with_reducible rfl))|refine WC.ret ?_|refine ThenD.r ?_));all_goals (first|((repeat clear hK);(repeat clear Kx))))
  all_goals try (exfalso;first|contradiction|omega)
  all_goals (refine ⟨trivial,_,rfl,?_⟩;exact fD)
 | true =>
  rw [hf] at cF
  by_cases hK:Z9 vs A≠0
  ·generalize Z9 vs A=ck at *
   (refine ZE Tryz.func8 rfl rfl ?_;simp only [Tryz.ntmps8,List.length_cons,List.length_nil,Nat.reduceAdd,Nat.reduceSub,List.replicate_succ,List.replicate_zero,List.cons_append,List.nil_append])
   ((repeat' (first|(apply WL.opN;exact yF;dsimp only [ZC,z0,z1])|refine WL.nil ?_|refine ZA fun Kx hK=>?_|(refine hK _ _ ?_;clear hK)|refine WC.region ?_|(apply ZF;(focus (first|exact wN|(apply SYG.yes;(exact wY);((first|(exact SY.box (OpD.t rfl) (fun I w v h=>ZAD I w v (ZBR I w v h)))|(exact SY.box (OpD.t rfl) Zq)|(apply SY.load;exact ZAI;exact OpD.t rfl)|(exact SY.buildE (R:=Lab) (_gR:=inferInstance) (els:=[(vs,A)]) ZNf (Zk (OpD.t rfl) Zl) rfl rfl (by decide) (fun _=>Zq) (by simp))|(exact ZBD (OpD.t rfl))|(apply SY.call cF Tryz.call9;exact ArgsD.cons (OpD.tle rfl ZBR) (ArgsD.cons (OpD.t rfl) ArgsD.nil))|(apply SY.call (cK) Tryz.call14;(exact aD))|(apply SY.call (cA) Tryz.call10;(exact aD))|((first|apply SY.move|apply SY.assign|apply SY.lss|apply SY.gtr|apply SY.eql|apply SY.neq|apply SY.not) <;> (exact oD))|(apply ZY;(exact oD);(with_reducible rfl);(exact oD))|(apply ZX;(exact oD);(with_reducible rfl);(exact oD))|fail);all_goals infer_instance))));dsimp only [ZC,z0,z1])|((first|refine ZJ rfl rfl rfl (fun h=>?_) (fun h=>?_)|refine ZI rfl rfl rfl (fun h=>?_) (fun h=>?_)|refine ZH rfl rfl rfl (fun h=>?_) (fun h=>?_)) <;> (first|(exfalso;first|omega|contradiction)|(dsimp only [z0,z1])))|(apply Zb;(exact oD);(with_reducible rfl))|refine WC.ret ?_|refine ThenD.r ?_));all_goals (first|((repeat clear hK);(repeat clear Kx))))
   all_goals try (exfalso;first|contradiction|omega)
   all_goals (refine ⟨trivial,_,rfl,?_⟩;exact fD)
  have hK0:Z9 vs A=0:=Classical.byContradiction hK
  rw [hK0] at cK
  obtain ⟨q0,q2,q3⟩:=ZGC hf
  obtain ⟨k1,k2,k3,k4,k5⟩:=ZAU hK0
  have hAe:=ZTd k5
  have hsets:∀ m∈A.map Int.toNat,0<m/\m<256:=fun m hm=>by
   obtain ⟨a,ha,rfl⟩:=List.mem_map.1 hm
   have:=k5 a ha
   omega
  have hsl:(A.map Int.toNat).length=vs.length:=by rw [List.length_map];exact k2
  generalize A.map Int.toNat=sets at hAe hsets hsl
  subst hAe
  by_cases hn:n.length>60
  ·have hnI:(n.length:Int)>60:=by omega
   (refine ZE Tryz.func8 rfl rfl ?_;simp only [Tryz.ntmps8,List.length_cons,List.length_nil,Nat.reduceAdd,Nat.reduceSub,List.replicate_succ,List.replicate_zero,List.cons_append,List.nil_append])
   ((repeat' (first|(apply WL.opN;exact yF;dsimp only [ZC,z0,z1])|refine WL.nil ?_|refine ZA fun Kx hK=>?_|(refine hK _ _ ?_;clear hK)|refine WC.region ?_|(apply ZF;(focus (first|exact wN|(apply SYG.yes;(exact wY);((first|(exact SY.box (OpD.t rfl) (fun I w v h=>ZAD I w v (ZBR I w v h)))|(exact SY.box (OpD.t rfl) Zq)|(apply SY.load;exact ZAI;exact OpD.t rfl)|(apply SY.len;exact OpD.t rfl;exact ZB2;exact ZWq.unt)|(exact SY.buildE (R:=Lab) (_gR:=inferInstance) (els:=[(vs,ZBQ sets)]) ZNf (Zk (OpD.t rfl) Zl) rfl rfl (by decide) (fun _=>Zq) (by simp))|(exact ZBD (OpD.t rfl))|(apply SY.call cF Tryz.call9;exact ArgsD.cons (OpD.tle rfl ZBR) (ArgsD.cons (OpD.t rfl) ArgsD.nil))|(apply SY.call (cK) Tryz.call14;(exact aD))|(apply SY.call (cA) Tryz.call10;(exact aD))|((first|apply SY.move|apply SY.assign|apply SY.lss|apply SY.gtr|apply SY.eql|apply SY.neq|apply SY.not) <;> (exact oD))|(apply ZX;(exact oD);(with_reducible rfl);(exact oD))|fail);all_goals infer_instance))));dsimp only [ZC,z0,z1])|((first|refine ZJ rfl rfl rfl (fun h=>?_) (fun h=>?_)|refine ZI rfl rfl rfl (fun h=>?_) (fun h=>?_)|refine ZH rfl rfl rfl (fun h=>?_) (fun h=>?_)) <;> (first|(exfalso;first|omega|contradiction)|(dsimp only [z0,z1])))|(apply ZB;(exact oD);all_goals (intro h;try exact xD))|refine WC.ret ?_|refine ThenD.r ?_));all_goals (first|((repeat clear hK);(repeat clear Kx))))
   all_goals try (exfalso;first|contradiction|omega)
   all_goals (refine ⟨trivial,_,rfl,?_⟩;exact fD)
  have hnI:¬ (n.length:Int)>60:=by omega
  have cC:=ZOm vs sets n hsets (by omega)
  obtain ⟨hB0,hsu⟩:=ZQd (n:=n) hsets hK0
  have cS:=ZSJ vs (ZBQ sets) vs (ZHC sets n sets.length)
  rw [hsu] at cS
  simp only at cS
  have hBl:(ZHC sets n sets.length).length=vs.length:=by rw [ZFG];exact hsl
  have cCert:=fun d:Nat=>ZJp l vs (ZBQ sets) (d:Int) q3
  have hone:=fun (d:Nat) (L:List Cx) (hb:ZBK l vs (ZBQ sets)=0) (hd:d<3) hc=>ZRj (n:=n) (d:=d) (L:=L) hsets q3 hb hd hc
  obtain ⟨B,hB⟩:∃ B,ZHC sets n sets.length=B:=⟨_,rfl⟩
  rw [hB] at cC cS hBl hone hB0
  (refine ZE Tryz.func8 rfl rfl ?_;simp only [Tryz.ntmps8,List.length_cons,List.length_nil,Nat.reduceAdd,Nat.reduceSub,List.replicate_succ,List.replicate_zero,List.cons_append,List.nil_append])
  (repeat' (first|(apply WL.opN;exact yF;dsimp only [ZC,z0,z1])|refine WL.nil ?_|refine ZA fun Kx hK=>?_|(refine hK _ _ ?_;clear hK)|refine WC.region ?_ |  (refine WL.alloc (dst:=some 7) ZMN (ZAc rfl rfl) fun b7=>?_;dsimp only [ZC,z0,z1]) |  (refine ZW ZAI rfl (OpD.t rfl) Zq ?_;dsimp only [ZC,z0,z1])|(apply ZF;(focus (first|exact wN|(apply SYG.yes;(exact wY);((first|(exact SY.box (OpD.t rfl) (fun I w v h=>ZAD I w v (ZBR I w v h)))|(exact SY.box (OpD.t rfl) Zq)|(apply SY.load;exact ZAI;exact OpD.t rfl)|(apply SY.len;exact OpD.t rfl;exact ZB2;exact ZWq.unt)|(exact SY.buildE (R:=Lab) (_gR:=inferInstance) (els:=[(vs,ZBQ sets)]) ZNf (Zk (OpD.t rfl) Zl) rfl rfl (by decide) (fun _=>Zq) (by simp))|(exact ZBD (OpD.t rfl))|(apply SY.call cF Tryz.call9;exact ArgsD.cons (OpD.tle rfl ZBR) (ArgsD.cons (OpD.t rfl) ArgsD.nil))|(apply SY.call (cK) Tryz.call14;(exact aD))|(apply SY.call (cC) Tryz.call29;(exact aD))|(apply SY.call (cS) Tryz.call11;(exact aD))|((first|apply SY.move|apply SY.assign|apply SY.lss|apply SY.gtr|apply SY.eql|apply SY.neq|apply SY.not) <;> (exact oD))|(apply ZX;(exact oD);(with_reducible rfl);(exact oD))|(apply SY.extract;(exact oD);rfl)|fail);all_goals infer_instance))));dsimp only [ZC,z0,z1])|((first|refine ZJ rfl rfl rfl (fun h=>?_) (fun h=>?_)|refine ZI rfl rfl rfl (fun h=>?_) (fun h=>?_)|refine ZH rfl rfl rfl (fun h=>?_) (fun h=>?_)) <;> (first|(exfalso;first|omega|contradiction)|(dsimp only [z0,z1])))|(apply ZQ;(exact oD);(with_reducible rfl))|(apply ZB;(exact oD);all_goals (intro h;try exact xD))|refine WC.skip ?_|refine WC.block ?_))
  all_goals try (exfalso;first|contradiction|omega)
  (refine WC.loopU (X:=Nat) (fun d=>[(47,dI (d:Int)),(6,dA),(10,dA),(11,dA),(12,dA),(13,dA),(15,dA),(48,dA),(49,dA),(50,dA),(51,dA),(52,dA),(53,dA),(54,dA),(55,dA),(56,dA),(57,dA),(58,dA),(59,dA),(60,dA),(61,dA),(62,dA),(63,dA),(64,dA),(65,dA),(66,dA),(67,dA),(68,dA),(69,dA),(70,dA),(71,dA),(72,dA),(73,dA),(74,dA),(75,dA),(76,dA),(77,dA),(78,dA),(79,dA),(80,dA),(81,dA),(82,dA),(83,dA),(84,dA),(85,dA),(86,dA),(87,dA)]) (fun d=>[]) (fun d=>3-d) (fun d=>d≤3) 0 ?start ?frame0 ?objs0 ?round)
  case start=>exact Nat.zero_le _
  case frame0=>((try dsimp only [ZK,z0,z1]);repeat (first|exact LeF.nil|refine ZD (k:=?_)))
  case objs0=>rfl
  case round =>
   rintro d hd
   dsimp only [ZK,z0,z1]
   by_cases hd3:d<3
   ·have hdI:(d:Int)<3:=by omega
    have c1:=cCert d
    by_cases hb:ZBK l vs (ZBQ sets)≠0
    ·have e:ZJt l vs (ZBQ sets) (d:Int)=([],false,ZBK l vs (ZBQ sets)):=by unfold ZJt;rw [if_pos hb]
     rw [e] at c1
     simp only at c1
     generalize ZBK l vs (ZBQ sets)=be at *
     ((repeat' (first|(apply WL.opN;exact yF;dsimp only [ZC,z0,z1])|refine WL.nil ?_|refine ZA fun Kx hK=>?_|(refine hK _ _ ?_;clear hK)|refine WC.region ?_|(apply ZF;(focus (first|exact wN|(apply SYG.yes;(exact wY);((first|(apply SY.load;exact ZAI;exact OpD.t rfl)|(apply SY.call (c1) Tryz.call23;(exact aD))|(apply SY.call (cA) Tryz.call10;(exact aD))|((first|apply SY.move|apply SY.assign|apply SY.lss|apply SY.gtr|apply SY.eql|apply SY.neq|apply SY.not) <;> (exact oD))|(apply SY.extract;(exact oD);rfl)|fail);all_goals infer_instance))));dsimp only [ZC,z0,z1])|(apply ZB;(exact oD);all_goals (intro h;try exact xD))|(apply ZG;(exact oD);all_goals (intro h;try exact xD))|refine WC.skip ?_|refine WC.ret ?_|refine WC.block ?_|refine ThenD.r ?_|refine InBlockD.r ?_));all_goals (first|((repeat clear hK);(repeat clear Kx))))
     all_goals try (exfalso;first|contradiction|omega)
     all_goals (refine ⟨trivial,_,rfl,?_⟩;exact fD)
    have hb0:ZBK l vs (ZBQ sets)=0:=Classical.byContradiction hb
    have e:ZJt l vs (ZBQ sets) (d:Int)=((ZDS l (ZZ vs (ZBQ sets)) (d+1)).getD [],(ZDS l (ZZ vs (ZBQ sets)) (d+1)).isSome,0):=by
     unfold ZJt
     rw [if_neg hb,if_neg (by omega),Int.toNat_natCast]
    rw [e] at c1
    simp only at c1
    cases hc:ZDS l (ZZ vs (ZBQ sets)) (d+1) with
    | none =>
     rw [hc] at c1
     simp only [Option.getD_none,Option.isSome_none] at c1
     ((repeat' (first|(apply WL.opN;exact yF;dsimp only [ZC,z0,z1])|refine WL.nil ?_|refine ZA fun Kx hK=>?_|(refine hK _ _ ?_;clear hK)|(refine Kont.skip ?_;clear hK)|refine WC.region ?_|(apply ZF;(focus (first|exact wN|(apply SYG.yes;(exact wY);((first|(apply SY.load;exact ZAI;exact OpD.t rfl)|(apply SY.call (c1) Tryz.call23;(exact aD))|((first|apply SY.move|apply SY.assign|apply SY.lss|apply SY.gtr|apply SY.eql|apply SY.neq|apply SY.not) <;> (exact oD))|((first|apply SY.add|apply SY.rem) <;> first|exact oD|omega)|(apply SY.extract;(exact oD);rfl)|fail);all_goals infer_instance))));dsimp only [ZC,z0,z1])|(apply ZB;(exact oD);all_goals (intro h;try exact xD))|(apply ZG;(exact oD);all_goals (intro h;try exact xD))|(apply ZM;(exact oD);all_goals (intro h;try exact xD))|refine WC.skip ?_|refine WC.exit ?_|refine WC.block ?_|refine ThenD.n ?_));all_goals (first|((repeat clear hK);(repeat clear Kx))))
     all_goals try (exfalso;first|contradiction|omega)
     (refine ⟨d+1,?_,by first|omega|(simp only;omega),rfl,?_⟩;rotate_left;((try dsimp only [ZK,z0,z1]);repeat (first|exact LeF.nil|refine ZD (k:=?_)));(try dsimp only))
     omega
    | some L =>
     rw [hc] at c1
     simp only [Option.getD_some,Option.isSome_some] at c1
     obtain ⟨p1,p2,p3⟩:=hone d L hb0 hd3 hc
     have c2:=ZG6 l vs (ZBQ sets) L q3 fun lv hlv=>(p3 lv hlv).1
     rw [p2] at c2
     have hLI:decide ((L.length:Int)=(d:Int)+1)=true:=decide_eq_true (by omega)
     (repeat' (first|(apply WL.opN;exact yF;dsimp only [ZC,z0,z1])|refine WL.nil ?_|refine ZA fun Kx hK=>?_|(refine hK _ _ ?_;clear hK)|refine WC.region ?_|(apply ZF;(focus (first|exact wN|(apply SYG.yes;(exact wY);((first|(apply SY.load;exact tyC;exact OpD.t rfl)|(apply SY.load;exact ZAI;exact OpD.t rfl)|(exact ZBD (OpD.t rfl))|(apply SY.len;exact OpD.t rfl;exact ZB2;exact ZAO.unt)|(apply SY.call (c1) Tryz.call23;(exact aD))|(apply SY.call (c2) Tryz.call27;(exact aD))|((first|apply SY.move|apply SY.assign|apply SY.lss|apply SY.gtr|apply SY.eql|apply SY.neq|apply SY.not) <;> (exact oD))|((first|apply SY.add|apply SY.rem) <;> first|exact oD|omega)|(apply ZX;(exact oD);(with_reducible rfl);(exact oD))|(apply SY.extract;(exact oD);rfl)|fail);all_goals infer_instance))));dsimp only [ZC,z0,z1])|((first|refine ZJ rfl rfl rfl (fun h=>?_) (fun h=>?_)|refine ZI rfl rfl rfl (fun h=>?_) (fun h=>?_)|refine ZH rfl rfl rfl (fun h=>?_) (fun h=>?_)) <;> (first|(exfalso;first|omega|contradiction)|(dsimp only [z0,z1])))|(apply ZQ;(exact oD);(with_reducible rfl))|(apply ZB;(exact oD);all_goals (intro h;try exact xD))|(apply ZG;(exact oD);all_goals (intro h;try exact xD))|refine WC.skip ?_|refine WC.block ?_))
     all_goals try (exfalso;first|contradiction|omega)
     (refine WC.loopU (X:=Nat) (fun k=>[(77,dI (k:Int)),(6,dA),(15,dA),(78,dA),(79,dA),(80,dA),(81,dA),(82,dA),(83,dA),(84,dA),(85,dA),(86,dA)]) (fun k=>[]) (fun k=>L.length-k) (fun k=>k≤L.length) 0 ?start ?frame0 ?objs0 ?round)
     case start=>exact Nat.zero_le _
     case frame0=>((try dsimp only [ZK,z0,z1]);repeat (first|exact LeF.nil|refine ZD (k:=?_)))
     case objs0=>rfl
     case round =>
      rintro k hk
      dsimp only [ZK,z0,z1]
      by_cases hkl:k<L.length
      ·have hkI:(k:Int)<(L.length:Int):=by omega
       obtain ⟨_,r2,r3⟩:=p3 _ (List.getElem_mem hkl)
       obtain ⟨lv,hlv⟩:∃ lv,L[k]=lv:=⟨_,rfl⟩
       rw [hlv] at r2 r3
       have c3:=ZL1 lv vs B hBl (by omega) r2
       generalize (lv.filter (ZJ9 (ZZ vs B))).length=m at c3 r3
       have hm2:((m:Nat):Int).tmod 2=1:=by rw [Int.tmod_eq_emod_of_nonneg (by omega)];omega
       ((repeat' (first|(apply WL.opN;exact yF;dsimp only [ZC,z0,z1])|refine WL.nil ?_|refine ZA fun Kx hK=>?_|(refine hK _ _ ?_;clear hK)|refine WC.region ?_|(apply ZF;(focus (first|exact wN|(apply SYG.yes;(exact wY);((first|(apply SY.load;exact ZAI;exact OpD.t rfl)|(exact Zn (R:=Zo) (_gR:=inferInstance) ZAO hkl hlv (OpD.t rfl) (OpD.t rfl))|(exact ZEl hm2 (by decide) (OpD.t rfl) OpD.i)|(exact ZAx (b:=false) (decide_eq_false (by decide)) (OpD.t rfl) OpD.i)|(apply SY.call (c3) Tryz.call30;(exact aD))|((first|apply SY.move|apply SY.assign|apply SY.lss|apply SY.gtr|apply SY.eql|apply SY.neq|apply SY.not) <;> (exact oD))|((first|apply SY.add|apply SY.rem) <;> first|exact oD|omega)|fail);all_goals infer_instance))));dsimp only [ZC,z0,z1])|(apply ZQ;(exact oD);(with_reducible rfl))|(apply ZB;(exact oD);all_goals (intro h;try exact xD))|refine WC.skip ?_|refine WC.block ?_|refine ThenD.n ?_));all_goals (first|((repeat clear hK);(repeat clear Kx))))
       all_goals try (exfalso;first|contradiction|omega)
       (refine ⟨k+1,?_,by first|omega|(simp only;omega),rfl,?_⟩;rotate_left;((try dsimp only [ZK,z0,z1]);repeat (first|exact LeF.nil|refine ZD (k:=?_)));(try dsimp only))
       omega
      ·have hkI:¬ (k:Int)<(L.length:Int):=by omega
       ((repeat' (first|(apply WL.opN;exact yF;dsimp only [ZC,z0,z1])|refine WL.nil ?_|refine ZA fun Kx hK=>?_|(refine hK _ _ ?_;clear hK)|(refine Kont.skip ?_;clear hK)|refine WC.region ?_|(apply ZF;(focus (first|exact wN|(apply SYG.yes;(exact wY);((first|((first|apply SY.move|apply SY.assign|apply SY.lss|apply SY.gtr|apply SY.eql|apply SY.neq|apply SY.not) <;> (exact oD))|((first|apply SY.add|apply SY.rem) <;> first|exact oD|omega)|fail);all_goals infer_instance))));dsimp only [ZC,z0,z1])|(apply ZB;(exact oD);all_goals (intro h;try exact xD))|refine WC.exit ?_|refine ThenD.n ?_));all_goals (first|((repeat clear hK);(repeat clear Kx))))
       all_goals try (exfalso;first|contradiction|omega)
       (refine ⟨d+1,?_,by first|omega|(simp only;omega),rfl,?_⟩;rotate_left;((try dsimp only [ZK,z0,z1]);repeat (first|exact LeF.nil|refine ZD (k:=?_)));(try dsimp only))
       omega
   ·have hdI:¬ (d:Int)<3:=by omega
    ((repeat' (first|(apply WL.opN;exact yF;dsimp only [ZC,z0,z1])|refine WL.nil ?_|refine ZA fun Kx hK=>?_|(refine hK _ _ ?_;clear hK)|(refine Kont.skip ?_;clear hK)|refine WC.region ?_|(apply ZF;(focus (first|exact wN|(apply SYG.yes;(exact wY);((first|(apply SY.call (cA) Tryz.call10;(exact aD))|((first|apply SY.move|apply SY.assign|apply SY.lss|apply SY.gtr|apply SY.eql|apply SY.neq|apply SY.not) <;> (exact oD))|fail);all_goals infer_instance))));dsimp only [ZC,z0,z1])|(apply ZB;(exact oD);all_goals (intro h;try exact xD))|refine WC.ret ?_|refine WC.exit ?_));all_goals (first|((repeat clear hK);(repeat clear Kx))))
    all_goals try (exfalso;first|contradiction|omega)
    all_goals (refine ⟨trivial,_,rfl,?_⟩;exact fD)
end
section
open Go.ChangeShapes Go.WideShapes Go.ChangeAt Go.RowKit
section
variable {H:Type} {enc:TypeId × Value->H}
theorem ZFr:Tryz.prog.cellsOf 25=2:=by kernel_rfl
theorem ZC4:Tryz.prog.cellsOf 23=1:=by kernel_rfl
theorem ZIR {w:World} {fuel:Nat} {v:Value} {x:DataW H × List MemPlace} (h:DataW.trod enc Tryz.prog w 0 (fun _=>true) true fuel 23 [v]=some x) :
  ∃ xs,ZAa anyB w v xs:=by
 rcases Deep.open_slice1 Tryz.underlying23 ZJD h with ⟨hc,_⟩|⟨a,len,cap,m,n,V,D,Pl,hc,_,hl,hm,hmm,_,hx⟩
 ·obtain rfl:v = .slice none 0 0:=by simpa using hc
  exact ⟨[],ZBn⟩
 ·obtain rfl:v = .slice (some a) len cap:=by simpa using hc
  simp only [if_true] at hmm
  subst hmm
  have hz:∀ i,∃ c:Int,i<m->V i = .int .i64 c:=fun i=>by
   by_cases hi:i<m
   ·obtain ⟨c,ec,_⟩:=DataW.trod_int Tryz.underlying3 (hx i hi).2
    exact ⟨c,fun _=>by simpa using ec⟩
   ·exact ⟨0,fun h=>absurd h hi⟩
  obtain ⟨z,hz⟩:=Classical.axiomOfChoice hz
  have hlen:((List.range len).map z).length=len:=by simp
  refine ⟨(List.range len).map z,some a,m,by rw [hlen],by rw [hlen];exact hl,hm,fun k hk=>?_⟩
  rw [hlen] at hk
  obtain ⟨h0,_⟩:=hx k (by omega)
  have hs:=World.cell?_spot (hx 0 (by omega)).1
  obtain ⟨b,off,sp⟩:=a
  obtain rfl:sp=none:=by simpa [Addr.add] using hs
  have hv:=hz k (by omega)
  refine ⟨V k,b,off,by simpa [RI] using hv,by rw [hv];rfl,rfl,trivial,by rw [Addr.add_lit] at h0;exact h0⟩
theorem open_Lb' {w:World} {r:Reach} {b0:Nat} {v:Value} {d:DataW H} {ps:List MemPlace} (hv:Value.okWide Tryz.prog w r b0 25 v) (h:DataW.Trod enc Tryz.prog w 0 (fun _=>true) true 25 v d ps):∃ x:List Vx × List Int,(dS Lab x).rd anyB w v:=by
 obtain ⟨fuel,h⟩:=h
 obtain ⟨cs,rfl,hcs⟩:=okWide_struct Tryz.underlying25 hv
 rw [ZFr] at hcs
 obtain ⟨u,u',rfl⟩:∃ u u',cs=#[u,u']:=by
  obtain ⟨l⟩:=cs
  match l,hcs with
  | [u,u'],_=>exact ⟨u,u',rfl⟩
 obtain ⟨y0,y1,n,hy,hl,h0,h1⟩:=trod_struct2 Tryz.underlying25 h
 have h0':DataW.trod enc Tryz.prog w 0 (fun _=>true) true n 22 [u]=some y0:=by
  simpa [Value.cells,ZEc,ZC4] using h0
 have h1':DataW.trod enc Tryz.prog w 0 (fun _=>true) true n 23 [u']=some y1:=by
  simpa [Value.cells,ZEc,ZC4] using h1
 obtain ⟨xs,hx⟩:=ZIS h0'
 obtain ⟨ys,hy⟩:=ZIR h1'
 refine ⟨(xs,ys),u,u',rfl,?_,?_,hx,hy⟩
 ·obtain ⟨a,c,hu,_⟩:=hx
  rw [hu];rfl
 ·obtain ⟨a,c,hu,_⟩:=hy
  rw [hu];rfl
end
end
section
open Go.ChangeShapes Go.WideShapes Go.ChangeAt Go.RowKit
section
variable {H:Type} {enc:TypeId × Value->H}
theorem ZVH:Tryz.prog.cellsOf 5=1:=by kernel_rfl
theorem ZXE {w:World} {fuel:Nat} {v:Value} {x:DataW H × List MemPlace} (h:DataW.trod enc Tryz.prog w 0 (fun _=>true) true fuel 65 [v]=some x) :
  ∃ xs,ZWb anyB w v xs:=by
 rcases Deep.open_slice1 Tryz.underlying65 ZVH h with ⟨hc,_⟩|⟨a,len,cap,m,n,V,D,Pl,hc,_,hl,hm,hmm,_,hx⟩
 ·obtain rfl:v = .slice none 0 0:=by simpa using hc
  exact ⟨[],ZBn⟩
 ·obtain rfl:v = .slice (some a) len cap:=by simpa using hc
  simp only [if_true] at hmm
  subst hmm
  have hz:∀ i,∃ c:Int,i<m->V i = .int .u8 c/\0≤c/\c≤255:=fun i=>by
   by_cases hi:i<m
   ·obtain ⟨c,ec,_,wc⟩:=DataW.trod_int Tryz.underlying5 (hx i hi).2
    exact ⟨c,fun _=>⟨by simpa using ec,by simpa [Lit.wf,IntKind.min,IntKind.max,IntKind.signed,IntKind.bits] using wc⟩⟩
   ·exact ⟨0,fun h=>absurd h hi⟩
  obtain ⟨z,hz⟩:=Classical.axiomOfChoice hz
  have hlen:((List.range len).map z).length=len:=by simp
  refine ⟨(List.range len).map z,some a,m,by rw [hlen],by rw [hlen];exact hl,hm,fun k hk=>?_⟩
  rw [hlen] at hk
  obtain ⟨h0,_⟩:=hx k (by omega)
  have hs:=World.cell?_spot (hx 0 (by omega)).1
  obtain ⟨b,off,sp⟩:=a
  obtain rfl:sp=none:=by simpa [Addr.add] using hs
  obtain ⟨hv,hr⟩:=hz k (by omega)
  refine ⟨V k,b,off,⟨by simpa using hv,by simpa using hr⟩,by rw [hv];rfl,rfl,trivial,by rw [Addr.add_lit] at h0;exact h0⟩
theorem open_Y' {w:World} {r:Reach} {b0:Nat} {v:Value} {d:DataW H} {ps:List MemPlace} (hv:Value.okWide Tryz.prog w r b0 65 v) (h:DataW.Trod enc Tryz.prog w 0 (fun _=>true) true 65 v d ps):∃ xs,(dS ZWb xs).rd anyB w v:=by
 obtain ⟨fuel,h⟩:=h
 obtain ⟨a,len,cap,rfl⟩:=okWide_slice Tryz.underlying65 hv
 exact ZXE h
end
end
end Go.Proofs.YtofkoleingbbpaaGreatDoor
