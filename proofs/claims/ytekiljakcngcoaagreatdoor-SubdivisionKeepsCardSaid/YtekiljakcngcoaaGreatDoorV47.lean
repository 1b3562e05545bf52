/- Part 47: walks by contracts, and plain laws. -/
import Derived.Test.YtekiljakcngcoaaGreatDoorV46
set_option linter.unusedVariables false
set_option linter.unusedSimpArgs false
set_option linter.unusedSectionVars false
set_option maxRecDepth 100000
set_option maxHeartbeats 4000000
namespace Go.Proofs.YtekiljakcngcoaaGreatDoor
section
open Go.RowKit
theorem ZPO {a b c d e f:HObj} {hp:List HObj}:(a::b::c::d::e::f::hp).Perm (c::b::d::e::f::a::hp) :=
 ZKw.trans (.cons c (.cons b ((List.Perm.swap d a _).trans (.cons d ((List.Perm.swap e a _).trans (.cons e (List.Perm.swap f a _)))))))

set_option maxHeartbeats 16000000 in
theorem ZUl (bs bm:Nat) (F C:Cx) (L:List Vx) (car:Vx->List Vx) (M:ZIi) (hOf:ofP F=(C,0)) (hB:Bld L car M) (hl:M.length≤100000) (hcl:∀ p∈M,p.2.2.length≤1000) :
  CallC Tryz.prog 31 ([dX (.pointer (some ⟨bs,0,none⟩))]++([]:List Value).map dX) [ZAP bs 66 [dS ZAe F,dX (.map (some bm))],hMC bm kvV M,ZAm ZI M]
   (fun d hp2=>∃ vC,d=dT [ZGJ [dS ZAe C,dS ZI (ZCH [] L),dX vC],dI 0]/\hp2=[Zr vC 28 ZI ((ZCH [] L).map car)]):=by
 have hO:=ZSl F
 rw [hOf] at hO
 refine ZCl ZDp Tryz.func31 rfl rfl fun hp=>?_
 simp only [Tryz.ntmps31,List.length_cons,List.length_nil,List.length_append,List.length_map,Nat.reduceAdd,Nat.reduceSub,List.replicate_succ,List.replicate_zero,List.cons_append,List.nil_append,List.map_cons,List.map_nil,List.append_assoc]
 (repeat' (first|((first|apply WL.opN|apply WD.opN);exact yF;dsimp only [ZA,z0,z1])|refine WL.nil ?_|refine ZC fun Kx hK=>?_|(refine hK _ _ ?_;clear hK)|refine WC.region ?_ |  (refine WL.alloc (dst:=some 2) ZKA (ZA0 rfl rfl rfl) fun b2=>?_;dsimp only [ZA,z0,z1]) |  (refine ZEG (dst:=some 6) (zs:=[.slice none 0 0,.slice none 0 0,.slice none 0 0]) ZKA (by decide) (by simp [Value.oneCell']) fun b6=>?_;dsimp only [ZA,z0,z1,List.map_cons,List.map_nil]) |  (refine ZEK ZDp (OpD.t rfl) (OpD.t rfl) rfl rfl ?_;dsimp only [ZA]) |  (refine ZI3 ZCK (OpD.t rfl) (.tail _ (.tail _ (.tail _ (.head _)))) fun r=>?_;dsimp only [ZA,z0,z1])|(apply WL.alloc;(first|exact tzV|exact tzC);(first|exact ZN rfl|exact ZW|exact ZX rfl);(intro _;dsimp only [ZA,z0,z1]))|(apply ZG;(exact tD);rfl;(exact oD);(exact hD);dsimp only [ZA,z0,z1])|((first|apply WL.opN|apply WD.opN);(focus ((first|(exact ZAz (OpD.t rfl))|(refine ZAU ZMQ (OpD.t rfl) (by decide))|(refine Z1 ZIn (OpD.t rfl) (.tail _ (.head _)) rfl)|(apply SY.call (hO) Tryz.call58;(exact aD))|(exact ZNO (OpD.t rfl))|(refine Z1 ZG2 (OpD.t rfl) (.tail _ (.tail _ (.head _))) rfl)|((first|apply SY.move|apply SY.assign|apply SY.lss|apply SY.neq) <;> (exact oD))|(apply SY.extract;(exact oD);rfl)|fail);all_goals infer_instance));dsimp only [ZA,z0,z1])|(apply WC.condN;(exact oD);all_goals (intro h;try exact xD))|refine WC.skip ?_|refine WC.block ?_))
 all_goals try (exfalso;first|contradiction|omega)
 refine ZBz 50 2 (by decide) RV ?_
 refine WC.perm (List.Perm.swap _ _ _) ?_
 (refine WC.loopU (X:=Array Nat × Value × List Vx) (fun x=>[(7,dA),(29,dA),(30,dA),(31,dA),(32,dA),(33,dA),(34,dA),(35,dA),(36,dA),(37,dA),(38,dA)]) (fun x=>(hIt bm r M.length x.1::Zp x.2.1 50 2 RV x.2.2::ZAP b6 30 [dS ZAe C,dX x.2.1,dX (.slice none 0 0)]::Zh b2 30 3 true (dX (.agg #[.slice none 0 0,.slice none 0 0,.slice none 0 0]))::ZAP bs 66 [dS ZAe F,dX (.map (some bm))]::hMC bm kvV M::ZAm ZI M::hp)) (fun x=>M.length-x.1.size) (fun x=>x.1.toList.Nodup/\(∀ j∈x.1.toList,j<M.length)/\x.2.2=x.1.toList.map (ZMv M)) (#[],.slice none 0 0,[]) ?start ?frame0 ?objs0 ?round)
 case start=>exact ⟨by simp,by simp,by simp⟩
 case frame0=>((try dsimp only [Za,z0,z1]);repeat (first|exact LeF.nil|refine ZF (k:=?_)))
 case objs0=>rfl
 case round =>
  rintro ⟨seen,v,xs⟩ ⟨q1,q2,q3⟩
  simp only at q1 q2 q3
  dsimp only [Za,z0,z1]
  have hsz:seen.size≤M.length:=by
   have:=ZEl q1 q2
   simpa using this
  have hxl:xs.length≤100000:=by rw [q3,List.length_map];simp;omega
  refine ZC fun Kx hK=>?_
  refine WC.region ?_
  refine ZLM (OpD.t rfl) (.tail _ (.tail _ (.tail _ (.tail _ (.head _))))) (fun hall=>?_) (fun j hj hns=>?_)
  ·dsimp only [ZA,z0,z1]
   obtain ⟨k1,k2⟩:=ZJk hB.nodup q1 q2 (fun j hj=>by simpa using hall j hj)
   rw [<- q3] at k1 k2
   refine WL.drop ?_
   (repeat' (first|((first|apply WL.opN|apply WD.opN);exact yF;dsimp only [ZA,z0,z1])|refine WL.nil ?_|refine ZC fun Kx hK=>?_|(refine hK _ _ ?_;clear hK)|(refine Kont.skip ?_;clear hK)|refine WC.region ?_ |  (refine ZEJ Tryz.call60 ZSZ (OpD.t rfl) (by omega) fun ys hperm hsort=>?_;refine WL.perm (List.Perm.swap _ _ _) (ZI2 (k:=1) rfl (ZBU 28 ZI ?_));dsimp only [ZA,z0,z1])|((first|apply WL.opN|apply WD.opN);(focus ((first|(refine ZAU ZCi (OpD.t rfl) (by decide))|(refine Z1 ZG3 (OpD.t rfl) (.tail _ (.head _)) rfl)|(apply SY.len;(exact oD);(exact nD);(exact uD))|(apply SY.extract;(exact oD);rfl)|fail);all_goals infer_instance));dsimp only [ZA,z0,z1])|(apply ZK;(exact oD);(with_reducible rfl))|refine WC.exit ?_|refine WC.block ?_))
   have hys:=ZJ9 hperm hsort k1 fun v=>(k2 v).trans (hB.mem v)
   have hyl:ys.length≤100000:=by rw [hperm.length_eq];exact hxl
   subst hys
   generalize hvs:ZCH [] L=vs at *
   (refine WC.loopU (X:=Nat × Value) (fun x=>[(45,dI (x.1:Int)),(9,dA),(46,dA),(47,dA),(48,dA),(49,dA),(50,dA),(51,dA),(52,dA),(53,dA),(54,dA),(55,dA),(56,dA),(57,dA),(58,dA),(59,dA),(60,dA),(61,dA)]) (fun x=>(Zr x.2 28 ZI ((vs.take x.1).map car)::ZAP b6 30 [dS ZAe C,dS ZI vs,dX x.2]::Zh b2 30 3 true (dX (.agg #[.slice none 0 0,.slice none 0 0,.slice none 0 0]))::ZAP bs 66 [dS ZAe F,dX (.map (some bm))]::hMC bm kvV M::ZAm ZI M::hp)) (fun x=>vs.length-x.1) (fun x=>x.1≤vs.length) (0,.slice none 0 0) ?start ?frame0 ?objs0 ?round)
   case start=>exact Nat.zero_le _
   case frame0=>((try dsimp only [Za,z0,z1]);repeat (first|exact LeF.nil|refine ZF (k:=?_)))
   case objs0=>rfl
   case round =>
    rintro ⟨i,u⟩ g1
    simp only at g1
    dsimp only [Za,z0,z1]
    by_cases hi:i<vs.length
    ·obtain ⟨cv,hcv⟩:=hB.at (v:=vs[i]) (by rw [hvs];exact List.getElem_mem _)
     have hok:=hB.ok _ hcv
     have hcl1:=hcl _ hcv
     simp only at hok hcl1
     have hul:((vs.take i).map car).length≤100000:=by rw [List.length_map,List.length_take];omega
     ((repeat' (first |  (apply WC.drawTail 10;kernel_rfl;kernel_rfl;simp only [List.take_succ_cons,List.take_zero,List.drop_succ_cons,List.drop_zero])|(refine WRd.nil ?_)|(apply ZBn rfl;(focus (intro c hcc;apply SYG.yes;(exact Zc rfl);((first|(refine ZAU ZCi (OpD.t rfl) (by decide))|(refine Z1 ZIn (OpD.t rfl) (.tail _ (.head _)) rfl)|(exact ZAz (OpD.t rfl))|(refine ZAU ZMQ (OpD.t rfl) (by decide))|(refine Z1 ZG2 (OpD.t rfl) (.tail _ (.tail _ (.tail _ (.head _)))) rfl)|(refine ZEC (R:=ZI) ZCK ZBc (OpD.t rfl) (.tail _ (.tail _ (.tail _ (.tail _ (.head _))))) (.tail _ (.tail _ (.tail _ (.tail _ (.tail _ (.head _)))))) (OpD.t rfl) ⟨fun _ _ _ h=>h⟩ hok hB.ok hB.nodup hcv)|(apply SY.call (ZDa (car vs[i]) hcl1) Tryz.call62;(exact aD))|((first|apply SY.move|apply SY.assign|apply SY.lss|apply SY.neq) <;> (exact oD))|((first|apply SY.add) <;> first|exact oD|omega)|(apply SY.load;(exact tD);(exact oD))|(apply ZJ;(exact tD);(exact oD);(exact (by simp)))|(apply SY.len;(exact oD);(exact nD);(exact uD))|(apply ZV;exact OpD.t rfl;(first|exact .head _|exact .tail _ (.head _));(exact uD))|(apply Zf;exact OpD.t rfl;(first|exact .head _|exact .tail _ (.head _));(exact uD))|(apply Zi;(exact eD);(exact oD);(exact oD);exact kD)|(apply SY.ix;(exact eD);(exact oD);(exact oD);exact kD)|(first|(apply SY.fld0 vxT <;> (exact oD))|(apply SY.fld1 vxT <;> (exact oD))|(apply SY.mkV0 vxT <;> (exact oD))|(apply SY.mkV1 vxT <;> (exact oD))|(apply ZAo vxT <;> (exact oD))|(apply Zm vxT <;> (exact oD)))|(apply Zb ZAA;exact OpD.t rfl)|exact ZAX ZAA|(apply ZAv ZAA;exact OpD.t rfl)|(apply Zn;(exact oD);(exact oD);exact ZCF)|(apply SY.buildE;(exact eD);((try simp only [List.map_cons,List.map_nil]);(repeat (first|exact ZR|(apply ZQ;(first|exact OpD.t rfl|exact OpD.i|exact OpD.b|exact OpD.tle rfl (by first|exact ZD|exact ZB (by decide))|exact ⟨ZD⟩|exact ⟨ZB (by decide)⟩)))));rfl;rfl;decide;(intro _;exact Zo);(exact (by simp)))|(apply SY.build1';(exact eD);((try simp only [List.map_cons,List.map_nil]);(repeat (first|exact ZR|(apply ZQ;(first|exact OpD.t rfl|exact OpD.i|exact OpD.b|exact OpD.tle rfl (by first|exact ZD|exact ZB (by decide))|exact ⟨ZD⟩|exact ⟨ZB (by decide)⟩)))));rfl;rfl;(intro _;first|exact Zq|exact Zv|exact Zt|exact shape_B);(exact (by simp)))|(apply SY.extract;(exact oD);rfl)|fail);all_goals infer_instance)));dsimp only [ZA,z0,z1])|((first|apply WL.opN|apply WD.opN);exact yF;dsimp only [ZA,z0,z1])|refine WL.nil ?_|refine WD.nil ?_|refine ZC fun Kx hK=>?_|(refine hK _ _ ?_;clear hK)|(refine Kont.skip ?_;clear hK)|refine WC.region ?_|(apply WC.draw;kernel_rfl;kernel_rfl) |  (refine ZF8 (.head _) fun h1=>WL.perm (List.Perm.swap _ _ _) (ZB3 ZIn (OpD.t rfl) (OpD.t rfl) (ZN h1) (by simp) (WL.perm (List.Perm.swap _ _ _) ?_));dsimp only [ZA,z0,z1])|((first|apply ZO|apply ZM);(exact eD);exact OpD.t rfl;(exact oD);(intro _;exact hD);(exact (by simp));(exact (by simp));(first|exact ⟨by decide,by decide⟩|skip);decide;(exact lD);(intro _;dsimp only [ZA,z0,z1]);all_goals (try infer_instance))|((first|apply WL.appK|apply WL.app1);(exact eD);exact OpD.t rfl;(exact oD);decide;(exact lD);(intro _;dsimp only [ZA,z0,z1]);all_goals (try infer_instance))|((apply (WL.perm (List.Perm.swap _ _ _));(first|apply ZO|apply ZM);(exact eD);exact OpD.t rfl;(exact oD);(intro _;exact hD);(exact (by simp));(exact (by simp));(first|exact ⟨by decide,by decide⟩|skip);decide;(exact lD);(intro _;dsimp only [ZA,z0,z1]);all_goals (try infer_instance)))|((apply (WL.perm (List.Perm.swap _ _ _));(first|apply WL.appK|apply WL.app1);(exact eD);exact OpD.t rfl;(exact oD);decide;(exact lD);(intro _;dsimp only [ZA,z0,z1]);all_goals (try infer_instance)))|(apply WL.alloc;(first|exact tzV|exact tzC);(first|exact ZN rfl|exact ZW|exact ZX rfl);(intro _;dsimp only [ZA,z0,z1]))|(apply ZG;(exact tD);rfl;(exact oD);(exact hD);dsimp only [ZA,z0,z1])|(apply ZT;(exact tD);rfl;(exact oD);(exact hD);dsimp only [ZA,z0,z1])|(apply ZU;(exact tD);rfl;(exact oD);(exact hD);dsimp only [ZA,z0,z1])|((first|apply WL.opN|apply WD.opN);(focus ((first|(refine ZAU ZCi (OpD.t rfl) (by decide))|(refine Z1 ZIn (OpD.t rfl) (.tail _ (.head _)) rfl)|(exact ZAz (OpD.t rfl))|(refine ZAU ZMQ (OpD.t rfl) (by decide))|(refine Z1 ZG2 (OpD.t rfl) (.tail _ (.tail _ (.tail _ (.head _)))) rfl)|(refine ZEC (R:=ZI) ZCK ZBc (OpD.t rfl) (.tail _ (.tail _ (.tail _ (.tail _ (.head _))))) (.tail _ (.tail _ (.tail _ (.tail _ (.tail _ (.head _)))))) (OpD.t rfl) ⟨fun _ _ _ h=>h⟩ hok hB.ok hB.nodup hcv)|(apply SY.call (ZDa (car vs[i]) hcl1) Tryz.call62;(exact aD))|((first|apply SY.move|apply SY.assign|apply SY.lss|apply SY.neq) <;> (exact oD))|((first|apply SY.add) <;> first|exact oD|omega)|(apply Zi;(exact eD);(exact oD);(exact oD);exact kD)|(apply SY.build1';(exact eD);((try simp only [List.map_cons,List.map_nil]);(repeat (first|exact ZR|(apply ZQ;(first|exact OpD.t rfl|exact OpD.i|exact OpD.b|exact OpD.tle rfl (by first|exact ZD|exact ZB (by decide))|exact ⟨ZD⟩|exact ⟨ZB (by decide)⟩)))));rfl;rfl;(intro _;first|exact Zq|exact Zv|exact Zt|exact shape_B);(exact (by simp)))|fail);all_goals infer_instance));dsimp only [ZA,z0,z1])|(apply WC.condT;(exact oD);(with_reducible rfl))|(apply ZK;(exact oD);(with_reducible rfl))|(apply ZE;(exact oD);all_goals (intro h;try exact xD))|(apply WC.condN;(exact oD);all_goals (intro h;try exact xD))|(apply WC.condNB;(exact oD);all_goals (intro h;try exact xD))|(apply WC.cond;(exact oD);all_goals (intro h;try exact xD))|refine WC.skip ?_|refine WC.ret ?_|refine WC.exit ?_|refine WC.block ?_|refine ThenD.n ?_|refine ThenD.r ?_|refine ThenD.x ?_|refine InBlockD.x ?_|refine InBlockD.n ?_|refine InBlockD.r ?_|refine ZL (by decide) ?_));all_goals (first|refine WC.id ?_|refine WL.id ?_|((repeat clear hK);(repeat clear Kx))))
     all_goals try (exfalso;first|contradiction|omega)
     (refine ⟨(i+1,_) , ?_,by first|omega|(simp only;omega),by ((try simp only);  (rw [ZZ hi,List.map_append,List.map_cons,List.map_nil])),?_⟩;rotate_left;((try dsimp only [Za,z0,z1]);repeat (first|exact LeF.nil|refine ZF (k:=?_)));(try dsimp only))
     omega
    ·have hie:i=vs.length:=by omega
     subst hie
     rw [List.take_length]
     ((repeat' (first|((first|apply WL.opN|apply WD.opN);exact yF;dsimp only [ZA,z0,z1])|refine WL.nil ?_|refine WD.nil ?_|refine ZC fun Kx hK=>?_|(refine hK _ _ ?_;clear hK)|(refine Kont.skip ?_;clear hK)|refine WC.region ?_|(apply WC.draw;kernel_rfl;kernel_rfl) |  (refine WL.perm ZPO (ZG ZDp rfl (OpD.t rfl) ZMN (WL.drop (WL.drop (WL.drop (WL.drop ?_)))));dsimp only [ZA,z0,z1])|((first|apply ZO|apply ZM);(exact eD);exact OpD.t rfl;(exact oD);(intro _;exact hD);(exact (by simp));(exact (by simp));(first|exact ⟨by decide,by decide⟩|skip);decide;(exact lD);(intro _;dsimp only [ZA,z0,z1]);all_goals (try infer_instance))|((first|apply WL.appK|apply WL.app1);(exact eD);exact OpD.t rfl;(exact oD);decide;(exact lD);(intro _;dsimp only [ZA,z0,z1]);all_goals (try infer_instance))|((apply (WL.perm (List.Perm.swap _ _ _));(first|apply ZO|apply ZM);(exact eD);exact OpD.t rfl;(exact oD);(intro _;exact hD);(exact (by simp));(exact (by simp));(first|exact ⟨by decide,by decide⟩|skip);decide;(exact lD);(intro _;dsimp only [ZA,z0,z1]);all_goals (try infer_instance)))|((apply (WL.perm (List.Perm.swap _ _ _));(first|apply WL.appK|apply WL.app1);(exact eD);exact OpD.t rfl;(exact oD);decide;(exact lD);(intro _;dsimp only [ZA,z0,z1]);all_goals (try infer_instance)))|(apply WL.alloc;(first|exact tzV|exact tzC);(first|exact ZN rfl|exact ZW|exact ZX rfl);(intro _;dsimp only [ZA,z0,z1]))|(apply ZG;(exact tD);rfl;(exact oD);(exact hD);dsimp only [ZA,z0,z1])|(apply ZT;(exact tD);rfl;(exact oD);(exact hD);dsimp only [ZA,z0,z1])|(apply ZU;(exact tD);rfl;(exact oD);(exact hD);dsimp only [ZA,z0,z1])|((first|apply WL.opN|apply WD.opN);(focus ((first|(refine ZLC ZDp (OpD.t rfl) (.tail _ (.head _)) (by decide) rfl)|((first|apply SY.move|apply SY.assign|apply SY.lss|apply SY.neq) <;> (exact oD))|((first|apply SY.add) <;> first|exact oD|omega)|(apply SY.load;(exact tD);(exact oD))|(apply ZJ;(exact tD);(exact oD);(exact (by simp)))|(apply SY.len;(exact oD);(exact nD);(exact uD))|(apply ZV;exact OpD.t rfl;(first|exact .head _|exact .tail _ (.head _));(exact uD))|(apply Zf;exact OpD.t rfl;(first|exact .head _|exact .tail _ (.head _));(exact uD))|(apply Zi;(exact eD);(exact oD);(exact oD);exact kD)|(apply SY.ix;(exact eD);(exact oD);(exact oD);exact kD)|(first|(apply SY.fld0 vxT <;> (exact oD))|(apply SY.fld1 vxT <;> (exact oD))|(apply SY.mkV0 vxT <;> (exact oD))|(apply SY.mkV1 vxT <;> (exact oD))|(apply ZAo vxT <;> (exact oD))|(apply Zm vxT <;> (exact oD)))|(apply Zb ZAA;exact OpD.t rfl)|exact ZAX ZAA|(apply ZAv ZAA;exact OpD.t rfl)|(apply Zn;(exact oD);(exact oD);exact ZCF)|(apply SY.buildE;(exact eD);((try simp only [List.map_cons,List.map_nil]);(repeat (first|exact ZR|(apply ZQ;(first|exact OpD.t rfl|exact OpD.i|exact OpD.b|exact OpD.tle rfl (by first|exact ZD|exact ZB (by decide))|exact ⟨ZD⟩|exact ⟨ZB (by decide)⟩)))));rfl;rfl;decide;(intro _;exact Zo);(exact (by simp)))|(apply SY.build1';(exact eD);((try simp only [List.map_cons,List.map_nil]);(repeat (first|exact ZR|(apply ZQ;(first|exact OpD.t rfl|exact OpD.i|exact OpD.b|exact OpD.tle rfl (by first|exact ZD|exact ZB (by decide))|exact ⟨ZD⟩|exact ⟨ZB (by decide)⟩)))));rfl;rfl;(intro _;first|exact Zq|exact Zv|exact Zt|exact shape_B);(exact (by simp)))|(apply SY.extract;(exact oD);rfl)|fail);all_goals infer_instance));dsimp only [ZA,z0,z1])|(apply WC.condT;(exact oD);(with_reducible rfl))|(apply ZK;(exact oD);(with_reducible rfl))|(apply ZE;(exact oD);all_goals (intro h;try exact xD))|(apply WC.condN;(exact oD);all_goals (intro h;try exact xD))|(apply WC.condNB;(exact oD);all_goals (intro h;try exact xD))|(apply WC.cond;(exact oD);all_goals (intro h;try exact xD))|refine WC.skip ?_|refine WC.ret ?_|refine WC.exit ?_|refine WC.block ?_|refine ThenD.n ?_|refine ThenD.r ?_|refine ThenD.x ?_|refine InBlockD.x ?_|refine InBlockD.n ?_|refine InBlockD.r ?_|refine ZL (by decide) ?_));all_goals (first|refine WC.id ?_|refine WL.id ?_|((repeat clear hK);(repeat clear Kx))))
     all_goals try (exfalso;first|contradiction|omega)
     exact ⟨trivial,_,_,[_],rfl,rfl,rfl,u,rfl,rfl⟩
  ·dsimp only [ZA,z0,z1]
   have hjs:seen.size<M.length:=by
    have h2:(seen.push j).toList.Nodup:=by
     rw [Array.toList_push,List.nodup_append]
     exact ⟨q1,by simp,fun a ha b hb e=>hns (by rw [<- List.mem_singleton.1 hb,<- e];simpa using ha)⟩
    have:=ZEl h2 (n:=M.length) fun i hi=>by
     rw [Array.toList_push,List.mem_append,List.mem_singleton] at hi
     rcases hi with hi|rfl
     ·exact q2 i hi
     ·exact hj
    simp only [Array.length_toList,Array.size_push] at this
    omega
   have hps:(seen.push j).size=seen.size+1:=Array.size_push ..
   ((repeat' (first|((first|apply WL.opN|apply WD.opN);exact yF;dsimp only [ZA,z0,z1])|refine WL.nil ?_|refine WD.nil ?_|refine ZC fun Kx hK=>?_|(refine hK _ _ ?_;clear hK)|(refine Kont.skip ?_;clear hK)|refine WC.region ?_|(apply WC.draw;kernel_rfl;kernel_rfl) |  (refine ZG (d:=dS RV M[j].1) tyV rfl (OpD.tle rfl (fun _ _ _ h=>h)) Zo ?_;dsimp only [ZA,z0,z1]) |  (refine ZF9 (.head _) fun h1=>WL.perm ZIN (ZB3 ZG3 (OpD.t rfl) (OpD.t rfl) (ZN h1) (by simp) (WL.perm ZKw ?_));dsimp only [ZA,z0,z1])|((first|apply ZO|apply ZM);(exact eD);exact OpD.t rfl;(exact oD);(intro _;exact hD);(exact (by simp));(exact (by simp));(first|exact ⟨by decide,by decide⟩|skip);decide;(exact lD);(intro _;dsimp only [ZA,z0,z1]);all_goals (try infer_instance))|((first|apply WL.appK|apply WL.app1);(exact eD);exact OpD.t rfl;(exact oD);decide;(exact lD);(intro _;dsimp only [ZA,z0,z1]);all_goals (try infer_instance))|((apply (WL.perm (List.Perm.swap _ _ _));(first|apply ZO|apply ZM);(exact eD);exact OpD.t rfl;(exact oD);(intro _;exact hD);(exact (by simp));(exact (by simp));(first|exact ⟨by decide,by decide⟩|skip);decide;(exact lD);(intro _;dsimp only [ZA,z0,z1]);all_goals (try infer_instance)))|((apply (WL.perm (List.Perm.swap _ _ _));(first|apply WL.appK|apply WL.app1);(exact eD);exact OpD.t rfl;(exact oD);decide;(exact lD);(intro _;dsimp only [ZA,z0,z1]);all_goals (try infer_instance)))|(apply WL.alloc;(first|exact tzV|exact tzC);(first|exact ZN rfl|exact ZW|exact ZX rfl);(intro _;dsimp only [ZA,z0,z1]))|(apply ZG;(exact tD);rfl;(exact oD);(exact hD);dsimp only [ZA,z0,z1])|(apply ZT;(exact tD);rfl;(exact oD);(exact hD);dsimp only [ZA,z0,z1])|(apply ZU;(exact tD);rfl;(exact oD);(exact hD);dsimp only [ZA,z0,z1])|((first|apply WL.opN|apply WD.opN);(focus ((first|(refine ZIu (OpD.t rfl) (.head _) (.tail _ (.tail _ (.tail _ (.tail _ (.tail _ (.head _)))))) hj)|(refine ZAU ZCi (OpD.t rfl) (by decide))|(refine Z1 ZG3 (OpD.t rfl) (.tail _ (.tail _ (.head _))) rfl)|((first|apply SY.move|apply SY.assign|apply SY.lss|apply SY.neq) <;> (exact oD))|((first|apply SY.add) <;> first|exact oD|omega)|(apply SY.load;(exact tD);(exact oD))|(apply ZJ;(exact tD);(exact oD);(exact (by simp)))|(apply SY.len;(exact oD);(exact nD);(exact uD))|(apply ZV;exact OpD.t rfl;(first|exact .head _|exact .tail _ (.head _));(exact uD))|(apply Zf;exact OpD.t rfl;(first|exact .head _|exact .tail _ (.head _));(exact uD))|(apply Zi;(exact eD);(exact oD);(exact oD);exact kD)|(apply SY.ix;(exact eD);(exact oD);(exact oD);exact kD)|(first|(apply SY.fld0 vxT <;> (exact oD))|(apply SY.fld1 vxT <;> (exact oD))|(apply SY.mkV0 vxT <;> (exact oD))|(apply SY.mkV1 vxT <;> (exact oD))|(apply ZAo vxT <;> (exact oD))|(apply Zm vxT <;> (exact oD)))|(apply Zb ZAA;exact OpD.t rfl)|exact ZAX ZAA|(apply ZAv ZAA;exact OpD.t rfl)|(apply Zn;(exact oD);(exact oD);exact ZCF)|(apply SY.buildE;(exact eD);((try simp only [List.map_cons,List.map_nil]);(repeat (first|exact ZR|(apply ZQ;(first|exact OpD.t rfl|exact OpD.i|exact OpD.b|exact OpD.tle rfl (by first|exact ZD|exact ZB (by decide))|exact ⟨ZD⟩|exact ⟨ZB (by decide)⟩)))));rfl;rfl;decide;(intro _;exact Zo);(exact (by simp)))|(apply SY.build1';(exact eD);((try simp only [List.map_cons,List.map_nil]);(repeat (first|exact ZR|(apply ZQ;(first|exact OpD.t rfl|exact OpD.i|exact OpD.b|exact OpD.tle rfl (by first|exact ZD|exact ZB (by decide))|exact ⟨ZD⟩|exact ⟨ZB (by decide)⟩)))));rfl;rfl;(intro _;first|exact Zq|exact Zv|exact Zt|exact shape_B);(exact (by simp)))|(apply SY.extract;(exact oD);rfl)|fail);all_goals infer_instance));dsimp only [ZA,z0,z1])|(apply WC.condT;(exact oD);(with_reducible rfl))|(apply ZK;(exact oD);(with_reducible rfl))|(apply ZE;(exact oD);all_goals (intro h;try exact xD))|(apply WC.condN;(exact oD);all_goals (intro h;try exact xD))|(apply WC.condNB;(exact oD);all_goals (intro h;try exact xD))|(apply WC.cond;(exact oD);all_goals (intro h;try exact xD))|refine WC.skip ?_|refine WC.ret ?_|refine WC.exit ?_|refine WC.block ?_|refine ThenD.n ?_|refine ThenD.r ?_|refine ThenD.x ?_|refine InBlockD.x ?_|refine InBlockD.n ?_|refine InBlockD.r ?_|refine ZL (by decide) ?_));all_goals (first|refine WC.id ?_|refine WL.id ?_|((repeat clear hK);(repeat clear Kx))))
   all_goals try (exfalso;first|contradiction|omega)
   (refine ⟨(seen.push j,_,xs++[M[j].1]) , ?_,by first|omega|(simp only;omega),by ((try simp only);  rfl),?_⟩;rotate_left;((try dsimp only [Za,z0,z1]);repeat (first|exact LeF.nil|refine ZF (k:=?_)));(try dsimp only))
   refine ⟨?_,fun i hi=>?_,?_⟩
   ·rw [Array.toList_push,List.nodup_append]
    exact ⟨q1,by simp,fun a ha b hb e=>hns (by rw [<- List.mem_singleton.1 hb,<- e];simpa using ha)⟩
   ·rw [Array.toList_push,List.mem_append,List.mem_singleton] at hi
    rcases hi with hi|rfl
    ·exact q2 i hi
    ·exact hj
   ·rw [q3,Array.toList_push,List.map_append,List.map_cons,List.map_nil,ZCb hj]
set_option maxHeartbeats 16000000 in
theorem ZTQ (l C:Cx) (car:Vx->List Vx) (he:ZGs l=0) (hOf:ofP (ZGF (ZA2 l) l)=(C,0)) (hcl:∀ v,(car v).length≤1000)
  (hcar:∀ s∈l,∀ bl∈ZCD (2 ^ s.length-1),∀ (i:Nat) (h:i<(Z5 (ZP8 (ZA2 l) s) s bl).length),okV (Z5 (ZP8 (ZA2 l) s) s bl)[i]/\car (Z5 (ZP8 (ZA2 l) s) s bl)[i]=atB s (ZBE bl 0 (fun _=>0) i)) :
  CallC Tryz.prog 7 [dS CpxL l] [] (fun d hp2=>∃ vC,d=dT [ZGJ [dS ZAe C,dS ZI (ZCH [] (ZGF (ZA2 l) l).flatten),dX vC],dI 0]/\hp2=[Zr vC 28 ZI ((ZCH [] (ZGF (ZA2 l) l).flatten).map car)]):=by
 have c1:=ZFS l
 rw [he] at c1
 have h0:ZAr l=0:=Classical.byContradiction fun q=>by unfold ZGs at he;rw [if_pos q] at he;exact q he
 have hG:=Z4.1 h0
 have hl:=hG.1
 have hg:=hG.2.2.1
 have h5:∀ s∈l,s.length≤5:=fun s hs=>Classical.byContradiction fun q=>by
  unfold ZGs at he
  rw [if_neg (by rw [h0];decide)] at he
  by_cases hd:l.all ZAi=false
  ·rw [if_pos hd] at he;exact absurd he (by decide)
  ·rw [if_neg hd,if_pos (List.any_eq_true.2 ⟨s,hs,decide_eq_true (by omega)⟩)] at he
   exact absurd he (by decide)
 have hsum:ZFi l≤4096:=Classical.byContradiction fun q=>by
  unfold ZGs at he
  rw [if_neg (by rw [h0];decide)] at he
  by_cases hd:l.all ZAi=false
  ·rw [if_pos hd] at he;exact absurd he (by decide)
  ·rw [if_neg hd] at he
   by_cases ha:l.any (fun s=>decide (5<s.length))=true
   ·rw [if_pos ha] at he;exact absurd he (by decide)
   ·rw [if_neg ha,if_pos (by omega)] at he;exact absurd he (by decide)
 have cF:=ZLo l (by omega) hg False.elim
 obtain ⟨hMo,hMk⟩:=ZVK hg
 have hFl:∀ i,(ZGF (ZA2 l) (l.take i)).length≤4096:=fun i=>by
  rw [ZET fun s hs=>h5 s (List.mem_of_mem_take hs)]
  have:=ZPs (l:=l) i
  omega
 have hcs:=fun i (h:i<l.length)=>ZOF (M:=ZA2 l) h
 have hflat:(ZGF (ZA2 l) l).flatten.length≤100000:=by
  have h1:=ZTk (ZTR (M:=ZA2 l) h5)
  rw [ZET h5] at h1
  omega
 generalize hM:ZA2 l=M at *
 refine ZCl ZDp Tryz.func7 rfl rfl fun tl0=>?_
 simp only [Tryz.ntmps7,List.length_cons,List.length_nil,Nat.reduceAdd,Nat.reduceSub,List.replicate_succ,List.replicate_zero,List.cons_append,List.nil_append]
 (repeat' (first |  (refine ZDV (t:=5) rfl ?_;dsimp only [z0,z1])|(apply WL.opN;exact yF;dsimp only [ZA,z0,z1])|refine WL.nil ?_|refine ZC fun Kx hK=>?_|(refine hK _ _ ?_;clear hK)|refine WC.region ?_ |  (refine WL.alloc (dst:=some 2) ZKA (ZA0 rfl rfl rfl) fun b2=>?_;dsimp only [ZA,z0,z1]) |  (refine WL.alloc (dst:=some 5) ZVc (ZN rfl) fun b5=>?_;dsimp only [ZA,z0,z1]) |  (refine ZAK ZR7 (OpD.t rfl) (OpD.t rfl) ZMO ?_;dsimp only [ZA,z0,z1]) |  (refine WL.makeMap kvV (fun u:Value × List Vx=>u.1) fun bm=>?_;dsimp only [ZA,z0,z1]) |  (refine ZKS (OpD.t rfl) (by simp) fun bs=>?_;dsimp only [ZA,z0,z1];refine ZE3 (K:=Vx) ZI (ZBU 28 ZI (WL.perm ZPM ?_)))|(apply WL.opN;(focus ((first|(exact SY.box (OpD.t rfl) (fun I w v h=>ZBM I w v (ZAh I w v h)))|(apply SY.call c1 Tryz.call25;exact ArgsD.cons (OpD.tle rfl ZAh) ArgsD.nil)|(apply SY.call (cF) Tryz.call26;exact ArgsD.cons (OpD.t rfl) (ArgsD.nil))|(exact ZKQ (OpD.t rfl))|((first|apply SY.move|apply SY.assign|apply SY.lss|apply SY.neq) <;> (exact oD))|(apply SY.len;(exact oD);(exact nD);(exact uD))|(apply Zb ZAA;exact OpD.t rfl)|fail);all_goals infer_instance));dsimp only [ZA,z0,z1])|(apply WC.condN;(exact oD);all_goals (intro h;try exact xD))|refine WC.skip ?_|refine WC.block ?_))
 all_goals try (exfalso;first|contradiction|omega)
 (refine WC.loopU (X:=Nat × Value × ZIi) (fun x=>[(23,dI (x.1:Int)),(8,dA),(24,dA),(25,dA),(26,dA),(27,dA),(28,dA),(29,dA),(30,dA),(31,dA)]) (fun x=>(ZQq bs bm x.2.1 (ZGF M (l.take x.1)) x.2.2++Zh b2 30 3 true (dX (.agg #[.slice none 0 0,.slice none 0 0,.slice none 0 0]))::tl0)) (fun x=>l.length-x.1) (fun x=>x.1≤l.length/\Bld (ZGF M (l.take x.1)).flatten car x.2.2) (0,.slice none 0 0,[]) ?start ?frame0 ?objs0 ?round)
 case start=>exact ⟨Nat.zero_le _,Bld.nil car⟩
 case frame0=>((try dsimp only [Za,z0,z1]);repeat (first|exact LeF.nil|refine ZF (k:=?_)))
 case objs0=>rfl
 case round =>
  rintro ⟨i,fv,M1⟩ ⟨i1,hB⟩
  simp only at i1 hB
  dsimp only [Za,z0,z1]
  by_cases hi:i<l.length
  ·have hgi:=hg _ (List.getElem_mem hi)
   have h5i:=h5 _ (List.getElem_mem hi)
   have hlen:=(ZES hgi).1
   have hFi:=hFl i
   have hsn:=hcs i hi
   have cD:=fun bs bm=>ZLk bs bm fv (ZGF M (l.take i)) M1 l[i] (fun m=>m<1048576) (ZP8 M l[i]) car (by omega) h5i (by omega) hB
    (fun bl hb i hi=>by have h1:=(ZCP h5i hb).2 i hi;rw [h1.1];omega) (fun bl hb b hbb=>by have:=(ZCP h5i hb).1 b hbb;omega)
    (fun bl hb i hi=>by have h1:=(ZCP h5i hb).2 i hi;rw [h1.1];omega) (fun bl hb j hj=>hcar _ (List.getElem_mem hi) bl hb j hj)
   rw [show ZGF M (l.take i)++(ZCD (2 ^ l[i].length-1)).map (Z5 (ZP8 M l[i]) l[i])=ZGF M (l.take (i+1)) from hsn.symm] at cD
   clear hsn
   ((repeat' (first |  (refine ZDV (t:=8) rfl ?_;dsimp only [z0,z1])|(apply WL.opN;exact yF;dsimp only [ZA,z0,z1])|refine WL.nil ?_|refine ZC fun Kx hK=>?_|(refine hK _ _ ?_;clear hK)|refine WC.region ?_ |  (refine WL.alloc (dst:=some 8) tzAr (ZN rfl) fun b8=>?_;dsimp only [ZA,z0,z1]) |  (refine ZAK ZG3 (OpD.t rfl) (OpD.t rfl) Zq ?_;dsimp only [ZA,z0,z1]) |  (refine ZAT (hp1:=ZQq bs bm fv (ZGF M (l.take i)) M1) (caps:=[]) (cD bs bm) Tryz.call27 OpD.f (ArgsD.cons (OpD.t rfl) (ArgsD.cons (OpD.tle rfl ZRW) (ArgsD.cons (OpD.t rfl) ArgsD.nil))) ?_;rintro d' hp2 ⟨fv',M2,hB2,rfl⟩;dsimp only [ZA,z0,z1,List.cons_append,List.nil_append])|(apply WL.opN;(focus ((first|(refine ZDv (R:=ZNQ) (_gR:=inferInstance) ZDz hi rfl (OpD.t rfl) (OpD.t rfl))|(apply ZE0 (A:=fun m:MemM=>[dI ((m.1:Nat):Int)]) (r:=fun m:MemM=>dI (ZP8 M l[i] m.1)) Tryz.call28 (fun m=>ZTT M l[i] m.1 hgi m.2 hMo hMk) (fun m=>ZUb);(exact aD))|((first|apply SY.move|apply SY.assign|apply SY.lss|apply SY.neq) <;> (exact oD))|((first|apply SY.add) <;> first|exact oD|omega)|fail);all_goals infer_instance));dsimp only [ZA,z0,z1])|(apply ZE;(exact oD);all_goals (intro h;try exact xD))|refine WC.skip ?_|refine WC.block ?_|refine ThenD.n ?_));all_goals (first|((repeat clear hK);(repeat clear Kx))))
   all_goals try (exfalso;first|contradiction|omega)
   refine ⟨(i+1,_,_),?_,by simp only;omega,rfl,?_⟩
   rotate_left
   ·((try dsimp only [Za,z0,z1]);repeat (first|exact LeF.nil|refine ZF (k:=?_)))
   ·exact ⟨by simp only;omega,hB2⟩
  ·rw [List.take_of_length_le (by omega)] at hB ⊢
   have hbl:=ZKa hB
   show WC _ _ _ _ (ZAP bs 66 [dX fv,dX (.map (some bm))]::Zr fv 28 ZI (ZGF M l)::hMC bm kvV M1::ZAm ZI M1::Zh b2 30 3 true (dX (.agg #[.slice none 0 0,.slice none 0 0,.slice none 0 0]))::tl0)
   refine ZLE (k:=0) rfl ?_
   dsimp only [z0,z1]
   ((repeat' (first|(apply WL.opN;exact yF;dsimp only [ZA,z0,z1])|refine WL.nil ?_|refine ZC fun Kx hK=>?_|(refine hK _ _ ?_;clear hK)|(refine Kont.skip ?_;clear hK)|refine WC.region ?_ |  (refine ZAT (hp1:=[_,_,_]) (caps:=[]) (ZUl bs bm (ZGF M l) C (ZGF M l).flatten car M1 hOf hB (Nat.le_trans hbl hflat) (fun p hp=>by rw [hB.car p hp];exact hcl _)) Tryz.call31 OpD.f (ArgsD.cons (OpD.t rfl) ArgsD.nil) ?_;rintro d' hp2 ⟨vC,rfl,rfl⟩;dsimp only [ZA,z0,z1,List.cons_append,List.nil_append]) |  (refine WL.perm (List.Perm.swap _ _ _) (ZG ZDp rfl (OpD.t rfl) ZMN ?_);dsimp only [ZA,z0,z1])|(apply WL.opN;(focus ((first|((first|apply SY.move|apply SY.assign|apply SY.lss|apply SY.neq) <;> (exact oD))|(apply SY.extract;(exact oD);rfl)|fail);all_goals infer_instance));dsimp only [ZA,z0,z1])|(apply ZE;(exact oD);all_goals (intro h;try exact xD))|refine WC.ret ?_|refine WC.exit ?_));all_goals (first|((repeat clear hK);(repeat clear Kx))))
   all_goals try (exfalso;first|contradiction|omega)
   exact ⟨trivial,_,_,[_],rfl,rfl,rfl,_,rfl,rfl⟩
end
section
open Go.RowKit

theorem ZTs (l:Cx) (m:Int):Fn Tryz.prog 5 [dS Cpx l,dI m] (dB (decide ((l.length:Int)≤m) && decide (ZFU l≤2))):=by
 have c1:=ZVY l
 generalize ZFU l=n at *
 generalize ZDo l=q at *
 (refine ZH Tryz.func5 rfl rfl ?_;simp only [Tryz.ntmps5,List.length_cons,List.length_nil,Nat.reduceAdd,Nat.reduceSub,List.replicate_succ,List.replicate_zero,List.cons_append,List.nil_append])
 by_cases hm:(l.length:Int)≤m
 ·rw [decide_eq_true hm,Bool.true_and]
  ((repeat' (first|(apply WL.opN;exact yF;dsimp only [ZA,z0,z1])|refine WL.nil ?_|refine ZC fun Kx hK=>?_|(refine hK _ _ ?_;clear hK)|refine WC.region ?_|(apply ZS;(focus (first|exact wN|(apply SYG.yes;(exact wY);((first|(exact SY.box (OpD.t rfl) ZBM)|(apply SY.call (c1) Tryz.call17;(exact aD))|((first|apply SY.move|apply SY.assign|apply SY.leq) <;> (exact oD))|(apply SY.len;(exact oD);(exact nD);(exact uD))|(apply Zb ZAA;exact OpD.t rfl)|(apply Zx;(exact oD);(with_reducible rfl);(exact oD))|(apply SY.extract;(exact oD);rfl)|fail);all_goals infer_instance))));dsimp only [ZA,z0,z1])|((first|refine Zl rfl rfl rfl (fun h=>?_) (fun h=>?_)|refine Zk rfl rfl rfl (fun h=>?_) (fun h=>?_)|refine Zj rfl rfl rfl (fun h=>?_) (fun h=>?_)) <;> (first|(exfalso;first|omega|contradiction)|(dsimp only [z0,z1])))|refine WC.ret ?_));all_goals (first|((repeat clear hK);(repeat clear Kx))))
  all_goals first|(refine ⟨trivial,_,rfl,?_⟩;exact fD)|(exfalso;first|contradiction|omega)
 ·rw [decide_eq_false hm,Bool.false_and]
  ((repeat' (first|(apply WL.opN;exact yF;dsimp only [ZA,z0,z1])|refine WL.nil ?_|refine ZC fun Kx hK=>?_|(refine hK _ _ ?_;clear hK)|refine WC.region ?_|(apply ZS;(focus (first|exact wN|(apply SYG.yes;(exact wY);((first|(exact SY.box (OpD.t rfl) ZBM)|(apply SY.call (c1) Tryz.call17;(exact aD))|((first|apply SY.move|apply SY.assign|apply SY.leq) <;> (exact oD))|(apply SY.len;(exact oD);(exact nD);(exact uD))|(apply Zb ZAA;exact OpD.t rfl)|(apply Z2;(exact oD);(with_reducible rfl);(exact oD))|(apply SY.extract;(exact oD);rfl)|fail);all_goals infer_instance))));dsimp only [ZA,z0,z1])|((first|refine Zl rfl rfl rfl (fun h=>?_) (fun h=>?_)|refine Zk rfl rfl rfl (fun h=>?_) (fun h=>?_)|refine Zj rfl rfl rfl (fun h=>?_) (fun h=>?_)) <;> (first|(exfalso;first|omega|contradiction)|(dsimp only [z0,z1])))|refine WC.ret ?_));all_goals (first|((repeat clear hK);(repeat clear Kx))))
  all_goals first|(refine ⟨trivial,_,rfl,?_⟩;exact fD)|(exfalso;first|contradiction|omega)
end
section
open Go.RowKit
theorem gain_S9 {l:Cx} {P:Nat->Prop} {w:World} {v:Value} (h:(dS ZAe l).rd P w v) (q:l=[]\/LaidIn P w):(dS ZUV l).rd P w v:=by
 obtain ⟨a,cap,hv,h1,h2,h3⟩:=(h:ZAe P w v l)
 refine ⟨a,cap,hv,h1,h2,fun k hk=>?_⟩
 obtain ⟨u,b,off,r1,r⟩:=h3 k hk
 refine ⟨u,b,off,?_,r⟩
 rcases q with q|q
 ·rw [q] at hk;exact absurd hk (Nat.not_lt_zero _)
 ·exact ZOn r1 (.inl q)
theorem ZJL (l:Cx) (h0:ZAr l=0) (hw:ZP0 l=0):CallC Tryz.prog 7 [dS CpxL l] [] (fun d hp2=>∃ vC,d=dT [ZGJ [dS ZAe (ZCv (ZC4 (ZAL l) l)),dS ZI (ZCH [] (ZC4 (ZAL l) l).flatten),dX vC],dI 0]/\hp2=[Zr vC 28 ZI ((ZCH [] (ZC4 (ZAL l) l).flatten).map (ZGr (ZAL l)))]):=by
 have he:ZGs l=0:=by rw [ZHt,if_neg (by omega)];exact hw
 have hG:=Z4.1 h0
 have hg:=hG.2.2.1
 obtain ⟨hd,h5,hsum⟩:=ZGp hw
 have hF:=ZJK hg h5
 have hFl:(ZC4 (ZAL l) l).length≤4096:=by rw [<- hF,ZET h5];exact hsum
 have hOf:ofP (ZGF (ZA2 l) l)=(ZCv (ZC4 (ZAL l) l),0):=by
  rw [hF]
  unfold ofP
  rw [if_neg (by omega),if_neg (fun q=>q (ZH0 fun f hf=>ZLm hg h5 hd hG.1 hf))]
 have hfl:=ZFp h5
 have:=ZTQ l _ (ZGr (ZAL l)) he hOf (fun v=>by
  unfold ZGr
  rw [List.getD_eq_getElem?_getD]
  cases h:(ZAL l)[v.2.toNat]? with
  | none=>simp
  | some x =>
   obtain ⟨s,hs,_,hsub⟩:=ZBH.1 (ZAs.1 (List.mem_of_getElem? h))
   have:=hsub.length_le
   have:=h5 s hs
   simp only [Option.getD_some]
   omega) (fun s hs bl hbl i h=>by
  have hi:i<s.length:=by rw [ZBO] at h;exact h
  have hf:=ZEf hg h5 hs hbl hi
  have hsn:=((ZCP (h5 s hs) hbl).2 i hi).1
  obtain ⟨j,j1,j2,j3⟩:=ZBX _ 0 _ (ZAs.2 hf)
  rw [ZDh h hi]
  unfold ZP8
  rw [hsn,ZFv hg hf,j2,Nat.zero_add]
  refine ⟨⟨?_,?_⟩,?_⟩
  ·exact (ZGy (hg s hs) _ (List.getElem_mem hi)).1
  ·show ZKp _
   unfold ZKp
   have:=hG.1
   simp only
   omega
  ·unfold ZGr
   simp only [Int.toNat_natCast]
   rw [List.getD_eq_getElem?_getD,List.getElem?_eq_getElem j1,Option.getD_some,j3])
 rw [hF] at this
 exact this

end
section
open Go.RowKit
theorem FinD.then {hp:List HObj} {d d' d'':Dat} (h:FinD hp d d') (k:d'.le d''):FinD hp d d'':=⟨fun hh hd=>k _ _ _ (h.out hh hd)⟩
theorem FinD.tup2 {hp:List HObj} {a b a' b':Dat} (h:FinD hp a a') (k:FinD hp b b'):FinD hp (dT [a,b]) (dT [a',b']):=⟨fun hh ⟨vs,h1,h2,h3⟩=>⟨vs,h1,h2,fun i d u hd hu=>by
 match i,hd with
 | 0,hd=>cases hd;exact h.out hh (h3 0 _ u rfl hu)
 | 1,hd=>cases hd;exact k.out hh (h3 1 _ u rfl hu)⟩⟩
theorem FinD.agg3 {hp:List HObj} {a b c a' b' c':Dat} (h:FinD hp a a') (k:FinD hp b b') (l:FinD hp c c'):FinD hp (ZGJ [a,b,c]) (ZGJ [a',b',c']):=⟨fun hh ⟨cs,h1,h2,h3,h4⟩=>⟨cs,h1,h2,h3,fun i v d hv hd=>by
 match i,hd with
 | 0,hd=>cases hd;exact h.out hh (h4 0 v _ hv rfl)
 | 1,hd=>cases hd;exact k.out hh (h4 1 v _ hv rfl)
 | 2,hd=>cases hd;exact l.out hh (h4 2 v _ hv rfl)⟩⟩
theorem ZNI {F:Cx} {V:List Vx} {C:Cx} {v:Value} {e:TypeId} {n:Int}:FinD [Zr v e ZI C] (dT [ZGJ [dS ZAe F,dS ZI V,dX v],dI n]) (dT [dS ZG6 (F,V,C),dI n]) :=
 FinD.tup2 ((FinD.agg3 (ZCV rfl) (ZCV rfl) (FinD.row (.head _))).then ZSH) (FinD.i rfl)

end
end Go.Proofs.YtekiljakcngcoaaGreatDoor
