/- Part 44: walks by contracts, and plain laws. -/
import Derived.Test.YtlgmojhmmbhgfaaGreatDoorVg43
set_option linter.unusedVariables false
set_option linter.unusedSimpArgs false
set_option linter.unusedSectionVars false
set_option maxRecDepth 100000
set_option maxHeartbeats 4000000
namespace Go.Proofs.YtlgmojhmmbhgfaaGreatDoor
section
open Go.RowKit
theorem ZOm {a b c d e f:HObj} {hp:List HObj}:(a::b::c::d::e::f::hp).Perm (c::b::d::e::f::a::hp) :=
 ZD7.trans (.cons c (.cons b ((List.Perm.swap d a _).trans (.cons d ((List.Perm.swap e a _).trans (.cons e (List.Perm.swap f a _)))))))

set_option maxHeartbeats 16000000 in
theorem ZTd (bs bm:Nat) (F C:Cx) (L:List Vx) (car:Vx->List Vx) (M:ZIJ) (hOf:ofP F=(C,0)) (hB:Bld L car M) (hl:M.length≤100000) (hcl:∀ p∈M,p.2.2.length≤1000) :
  CallC Tryz.prog 29 ([dX (.pointer (some ⟨bs,0,none⟩))]++([]:List Value).map dX) [Zp bs 61 [dS Zc F,dX (.map (some bm))],hMC bm kvV M,ZAm ZE M]
   (fun d hp2=>∃ vC,d=dT [ZEC [dS Zc C,dS ZE (ZBE [] L),dX vC],dI 0]/\hp2=[ZW vC 28 ZE ((ZBE [] L).map car)]):=by
 have hO:=ZLb F
 rw [hOf] at hO
 refine ZBU ZAd Tryz.func29 rfl rfl fun hp=>?_
 simp only [Tryz.ntmps29,List.length_cons,List.length_nil,List.length_append,List.length_map,Nat.reduceAdd,Nat.reduceSub,List.replicate_succ,List.replicate_zero,List.cons_append,List.nil_append,List.map_cons,List.map_nil,List.append_assoc]
 (repeat' (first|((first|apply WL.opN|apply WD.opN);exact yF;dsimp only [ZB,z0,z1])|refine WL.nil ?_|refine ZA fun Kx hK=>?_|(refine hK _ _ ?_;clear hK)|refine WC.region ?_ |  (refine WL.alloc (dst:=some 2) ZCH (Zj rfl rfl rfl) fun b2=>?_;dsimp only [ZB,z0,z1]) |  (refine ZAZ (dst:=some 6) (zs:=[.slice none 0 0,.slice none 0 0,.slice none 0 0]) ZCH (by decide) (by simp [Value.oneCell']) fun b6=>?_;dsimp only [ZB,z0,z1,List.map_cons,List.map_nil]) |  (refine ZAG ZAd (OpD.t rfl) (OpD.t rfl) rfl rfl ?_;dsimp only [ZB]) |  (refine ZId ZDj (OpD.t rfl) (.tail _ (.tail _ (.tail _ (.head _)))) fun r=>?_;dsimp only [ZB,z0,z1])|(apply WL.alloc;(first|exact tzV|exact tzC);(first|exact ZY rfl|exact ZAF|exact Zy rfl);(intro _;dsimp only [ZB,z0,z1]))|(apply ZN;(exact tD);rfl;(exact oD);(exact hD);dsimp only [ZB,z0,z1])|((first|apply WL.opN|apply WD.opN);(focus ((first|(exact ZBk (OpD.t rfl))|(refine Ze ZPX (OpD.t rfl) (by decide))|(refine Zb ZCl (OpD.t rfl) (.tail _ (.head _)) rfl)|(apply SY.call (hO) Tryz.call43;(exact aD))|(exact ZJt (OpD.t rfl))|(refine Zb ZMZ (OpD.t rfl) (.tail _ (.tail _ (.head _))) rfl)|((first|apply SY.move|apply SY.assign|apply SY.lss|apply SY.neq) <;> (exact oD))|(apply SY.extract;(exact oD);rfl)|fail);all_goals infer_instance));dsimp only [ZB,z0,z1])|(apply ZL;(exact oD);all_goals (intro h;try exact xD))|refine WC.skip ?_|refine WC.block ?_))
 all_goals try (exfalso;first|contradiction|omega)
 refine ZAl 43 2 (by decide) RV ?_
 refine WC.perm (List.Perm.swap _ _ _) ?_
 (refine WC.loopU (X:=Array Nat × Value × List Vx) (fun x=>[(7,dA),(29,dA),(30,dA),(31,dA),(32,dA),(33,dA),(34,dA),(35,dA),(36,dA),(37,dA),(38,dA)]) (fun x=>(hIt bm r M.length x.1::ZV x.2.1 43 2 RV x.2.2::Zp b6 30 [dS Zc C,dX x.2.1,dX (.slice none 0 0)]::ZQ b2 30 3 true (dX (.agg #[.slice none 0 0,.slice none 0 0,.slice none 0 0]))::Zp bs 61 [dS Zc F,dX (.map (some bm))]::hMC bm kvV M::ZAm ZE M::hp)) (fun x=>M.length-x.1.size) (fun x=>x.1.toList.Nodup/\(∀ j∈x.1.toList,j<M.length)/\x.2.2=x.1.toList.map (ZMM M)) (#[],.slice none 0 0,[]) ?start ?frame0 ?objs0 ?round)
 case start=>exact ⟨by simp,by simp,by simp⟩
 case frame0=>((try dsimp only [ZK,z0,z1]);repeat (first|exact LeF.nil|refine ZD (k:=?_)))
 case objs0=>rfl
 case round =>
  rintro ⟨seen,v,xs⟩ ⟨q1,q2,q3⟩
  simp only at q1 q2 q3
  dsimp only [ZK,z0,z1]
  have hsz:seen.size≤M.length:=by
   have:=ZEf q1 q2
   simpa using this
  have hxl:xs.length≤100000:=by rw [q3,List.length_map];simp;omega
  refine ZA fun Kx hK=>?_
  refine WC.region ?_
  refine ZKs (OpD.t rfl) (.tail _ (.tail _ (.tail _ (.tail _ (.head _))))) (fun hall=>?_) (fun j hj hns=>?_)
  ·dsimp only [ZB,z0,z1]
   obtain ⟨k1,k2⟩:=ZJH hB.nodup q1 q2 (fun j hj=>by simpa using hall j hj)
   rw [<- q3] at k1 k2
   refine WL.drop ?_
   (repeat' (first|((first|apply WL.opN|apply WD.opN);exact yF;dsimp only [ZB,z0,z1])|refine WL.nil ?_|refine ZA fun Kx hK=>?_|(refine hK _ _ ?_;clear hK)|(refine Kont.skip ?_;clear hK)|refine WC.region ?_ |  (refine ZEM Tryz.call63 ZRm (OpD.t rfl) (by omega) fun ys hperm hsort=>?_;refine WL.perm (List.Perm.swap _ _ _) (ZEK (k:=1) rfl (ZBG 28 ZE ?_));dsimp only [ZB,z0,z1])|((first|apply WL.opN|apply WD.opN);(focus ((first|(refine Ze ZAe (OpD.t rfl) (by decide))|(refine Zb ZCM (OpD.t rfl) (.tail _ (.head _)) rfl)|(apply SY.len;(exact oD);(exact nD);(exact uD))|(apply SY.extract;(exact oD);rfl)|fail);all_goals infer_instance));dsimp only [ZB,z0,z1])|(apply Zi;(exact oD);(with_reducible rfl))|refine WC.exit ?_|refine WC.block ?_))
   have hys:=ZJZ hperm hsort k1 fun v=>(k2 v).trans (hB.mem v)
   have hyl:ys.length≤100000:=by rw [hperm.length_eq];exact hxl
   subst hys
   generalize hvs:ZBE [] L=vs at *
   (refine WC.loopU (X:=Nat × Value) (fun x=>[(45,dI (x.1:Int)),(9,dA),(46,dA),(47,dA),(48,dA),(49,dA),(50,dA),(51,dA),(52,dA),(53,dA),(54,dA),(55,dA),(56,dA),(57,dA),(58,dA),(59,dA),(60,dA),(61,dA)]) (fun x=>(ZW x.2 28 ZE ((vs.take x.1).map car)::Zp b6 30 [dS Zc C,dS ZE vs,dX x.2]::ZQ b2 30 3 true (dX (.agg #[.slice none 0 0,.slice none 0 0,.slice none 0 0]))::Zp bs 61 [dS Zc F,dX (.map (some bm))]::hMC bm kvV M::ZAm ZE M::hp)) (fun x=>vs.length-x.1) (fun x=>x.1≤vs.length) (0,.slice none 0 0) ?start ?frame0 ?objs0 ?round)
   case start=>exact Nat.zero_le _
   case frame0=>((try dsimp only [ZK,z0,z1]);repeat (first|exact LeF.nil|refine ZD (k:=?_)))
   case objs0=>rfl
   case round =>
    rintro ⟨i,u⟩ g1
    simp only at g1
    dsimp only [ZK,z0,z1]
    by_cases hi:i<vs.length
    ·obtain ⟨cv,hcv⟩:=hB.at (v:=vs[i]) (by rw [hvs];exact List.getElem_mem _)
     have hok:=hB.ok _ hcv
     have hcl1:=hcl _ hcv
     simp only at hok hcl1
     have hul:((vs.take i).map car).length≤100000:=by rw [List.length_map,List.length_take];omega
     ((repeat' (first |  (apply WC.drawTail 10;kernel_rfl;kernel_rfl;simp only [List.take_succ_cons,List.take_zero,List.drop_succ_cons,List.drop_zero])|((first|apply WL.opN|apply WD.opN);exact yF;dsimp only [ZB,z0,z1])|refine WL.nil ?_|refine WD.nil ?_|refine ZA fun Kx hK=>?_|(refine hK _ _ ?_;clear hK)|refine WC.region ?_ |  (refine ZAt (.head _) fun h1=>WL.perm (List.Perm.swap _ _ _) (Z1 ZCl (OpD.t rfl) (OpD.t rfl) (ZY h1) (by simp) (WL.perm (List.Perm.swap _ _ _) ?_));dsimp only [ZB,z0,z1])|((first|apply WL.appK|apply WL.app1);(exact eD);exact OpD.t rfl;(exact oD);decide;(exact lD);(intro _;dsimp only [ZB,z0,z1]);all_goals (try infer_instance))|(apply WL.alloc;(first|exact tzV|exact tzC);(first|exact ZY rfl|exact ZAF|exact Zy rfl);(intro _;dsimp only [ZB,z0,z1]))|(apply ZN;(exact tD);rfl;(exact oD);(exact hD);dsimp only [ZB,z0,z1])|((first|apply WL.opN|apply WD.opN);(focus ((first|(refine Ze ZAe (OpD.t rfl) (by decide))|(refine Zb ZCl (OpD.t rfl) (.tail _ (.head _)) rfl)|(exact ZBk (OpD.t rfl))|(refine Ze ZPX (OpD.t rfl) (by decide))|(refine Zb ZMZ (OpD.t rfl) (.tail _ (.tail _ (.tail _ (.head _)))) rfl)|(refine ZIW (R:=ZE) ZDj ZGN (OpD.t rfl) (.tail _ (.tail _ (.tail _ (.tail _ (.head _))))) (.tail _ (.tail _ (.tail _ (.tail _ (.tail _ (.head _)))))) (OpD.t rfl) ⟨fun _ _ _ h=>h⟩ hok hB.ok hB.nodup hcv)|(apply SY.call (ZHc (car vs[i]) hcl1) Tryz.call65;(exact aD))|((first|apply SY.move|apply SY.assign|apply SY.lss|apply SY.neq) <;> (exact oD))|((first|apply SY.add) <;> first|exact oD|omega)|(apply ZBC;(exact eD);(exact oD);(exact oD);exact kD)|(apply SY.build1';(exact eD);((try simp only [List.map_cons,List.map_nil]);(repeat (first|exact Zq|(apply Zh;(first|exact OpD.t rfl|exact OpD.i|exact OpD.b|exact OpD.tle rfl (by first|exact ZI|exact ZH (by decide))|exact ⟨ZI⟩|exact ⟨ZH (by decide)⟩)))));rfl;rfl;(intro _;first|exact ZAb|exact ZA4|exact ZAa|exact ZBP);(exact (by simp)))|fail);all_goals infer_instance));dsimp only [ZB,z0,z1])|(apply ZC;(exact oD);all_goals (intro h;try exact xD))|refine WC.skip ?_|refine WC.block ?_|refine ThenD.n ?_));all_goals (first|((repeat clear hK);(repeat clear Kx))))
     all_goals try (exfalso;first|contradiction|omega)
     (refine ⟨(i+1,_) , ?_,by first|omega|(simp only;omega),by ((try simp only);  (rw [ZP hi,List.map_append,List.map_cons,List.map_nil])),?_⟩;rotate_left;((try dsimp only [ZK,z0,z1]);repeat (first|exact LeF.nil|refine ZD (k:=?_)));(try dsimp only))
     omega
    ·have hie:i=vs.length:=by omega
     subst hie
     rw [List.take_length]
     ((repeat' (first|((first|apply WL.opN|apply WD.opN);exact yF;dsimp only [ZB,z0,z1])|refine WL.nil ?_|refine ZA fun Kx hK=>?_|(refine hK _ _ ?_;clear hK)|(refine Kont.skip ?_;clear hK)|refine WC.region ?_ |  (refine WL.perm ZOm (ZN ZAd rfl (OpD.t rfl) ZB3 (WL.drop (WL.drop (WL.drop (WL.drop ?_)))));dsimp only [ZB,z0,z1])|((first|apply WL.opN|apply WD.opN);(focus ((first|(refine ZAr ZAd (OpD.t rfl) (.tail _ (.head _)) (by decide) rfl)|((first|apply SY.move|apply SY.assign|apply SY.lss|apply SY.neq) <;> (exact oD))|fail);all_goals infer_instance));dsimp only [ZB,z0,z1])|(apply ZC;(exact oD);all_goals (intro h;try exact xD))|refine WC.ret ?_|refine WC.exit ?_));all_goals (first|((repeat clear hK);(repeat clear Kx))))
     all_goals try (exfalso;first|contradiction|omega)
     exact ⟨trivial,_,_,[_],rfl,rfl,rfl,u,rfl,rfl⟩
  ·dsimp only [ZB,z0,z1]
   have hjs:seen.size<M.length:=by
    have h2:(seen.push j).toList.Nodup:=by
     rw [Array.toList_push,List.nodup_append]
     exact ⟨q1,by simp,fun a ha b hb e=>hns (by rw [<- List.mem_singleton.1 hb,<- e];simpa using ha)⟩
    have:=ZEf h2 (n:=M.length) fun i hi=>by
     rw [Array.toList_push,List.mem_append,List.mem_singleton] at hi
     rcases hi with hi|rfl
     ·exact q2 i hi
     ·exact hj
    simp only [Array.length_toList,Array.size_push] at this
    omega
   have hps:(seen.push j).size=seen.size+1:=Array.size_push ..
   ((repeat' (first|((first|apply WL.opN|apply WD.opN);exact yF;dsimp only [ZB,z0,z1])|refine WL.nil ?_|refine ZA fun Kx hK=>?_|(refine hK _ _ ?_;clear hK)|refine WC.region ?_ |  (refine ZN (d:=dS RV M[j].1) tyV rfl (OpD.tle rfl (fun _ _ _ h=>h)) ZAV ?_;dsimp only [ZB,z0,z1]) |  (refine ZBc (.head _) fun h1=>WL.perm ZAv (Z1 ZCM (OpD.t rfl) (OpD.t rfl) (ZY h1) (by simp) (WL.perm ZD7 ?_));dsimp only [ZB,z0,z1])|((apply (WL.perm (List.Perm.swap _ _ _));(first|apply ZBJ|apply ZA6);(exact eD);exact OpD.t rfl;(exact oD);(intro _;exact hD);(exact (by simp));(exact (by simp));(first|exact ⟨by decide,by decide⟩|skip);decide;(exact lD);(intro _;dsimp only [ZB,z0,z1]);all_goals (try infer_instance)))|(apply WL.alloc;(first|exact tzV|exact tzC);(first|exact ZY rfl|exact ZAF|exact Zy rfl);(intro _;dsimp only [ZB,z0,z1]))|((first|apply WL.opN|apply WD.opN);(focus ((first|(refine ZIS (OpD.t rfl) (.head _) (.tail _ (.tail _ (.tail _ (.tail _ (.tail _ (.head _)))))) hj)|(refine Ze ZAe (OpD.t rfl) (by decide))|(refine Zb ZCM (OpD.t rfl) (.tail _ (.tail _ (.head _))) rfl)|(apply SY.extract;(exact oD);rfl)|fail);all_goals infer_instance));dsimp only [ZB,z0,z1])|(apply ZAs;(exact oD);(with_reducible rfl))|refine WC.skip ?_|refine WC.block ?_|refine ThenD.n ?_|refine InBlockD.n ?_));all_goals (first|((repeat clear hK);(repeat clear Kx))))
   all_goals try (exfalso;first|contradiction|omega)
   (refine ⟨(seen.push j,_,xs++[M[j].1]) , ?_,by first|omega|(simp only;omega),by ((try simp only);  rfl),?_⟩;rotate_left;((try dsimp only [ZK,z0,z1]);repeat (first|exact LeF.nil|refine ZD (k:=?_)));(try dsimp only))
   refine ⟨?_,fun i hi=>?_,?_⟩
   ·rw [Array.toList_push,List.nodup_append]
    exact ⟨q1,by simp,fun a ha b hb e=>hns (by rw [<- List.mem_singleton.1 hb,<- e];simpa using ha)⟩
   ·rw [Array.toList_push,List.mem_append,List.mem_singleton] at hi
    rcases hi with hi|rfl
    ·exact q2 i hi
    ·exact hj
   ·rw [q3,Array.toList_push,List.map_append,List.map_cons,List.map_nil,ZCg hj]
set_option maxHeartbeats 16000000 in
theorem ZSP (l C:Cx) (car:Vx->List Vx) (he:ZF4 l=0) (hOf:ofP (ZF5 (ZBT l) l)=(C,0)) (hcl:∀ v,(car v).length≤1000)
  (hcar:∀ s∈l,∀ bl∈ZBR (2 ^ s.length-1),∀ (i:Nat) (h:i<(Zz (ZPU (ZBT l) s) s bl).length),okV (Zz (ZPU (ZBT l) s) s bl)[i]/\car (Zz (ZPU (ZBT l) s) s bl)[i]=atB s (ZBY bl 0 (fun _=>0) i)) :
  CallC Tryz.prog 7 [dS CpxL l] [] (fun d hp2=>∃ vC,d=dT [ZEC [dS Zc C,dS ZE (ZBE [] (ZF5 (ZBT l) l).flatten),dX vC],dI 0]/\hp2=[ZW vC 28 ZE ((ZBE [] (ZF5 (ZBT l) l).flatten).map car)]):=by
 have c1:=ZFG l
 rw [he] at c1
 have h0:ZBH l=0:=Classical.byContradiction fun q=>by unfold ZF4 at he;rw [if_pos q] at he;exact q he
 have hG:=ZAH.1 h0
 have hl:=hG.1
 have hg:=hG.2.2.1
 have h5:∀ s∈l,s.length≤5:=fun s hs=>Classical.byContradiction fun q=>by
  unfold ZF4 at he
  rw [if_neg (by rw [h0];decide)] at he
  by_cases hd:l.all Z0=false
  ·rw [if_pos hd] at he;exact absurd he (by decide)
  ·rw [if_neg hd,if_pos (List.any_eq_true.2 ⟨s,hs,decide_eq_true (by omega)⟩)] at he
   exact absurd he (by decide)
 have hsum:ZC6 l≤4096:=Classical.byContradiction fun q=>by
  unfold ZF4 at he
  rw [if_neg (by rw [h0];decide)] at he
  by_cases hd:l.all Z0=false
  ·rw [if_pos hd] at he;exact absurd he (by decide)
  ·rw [if_neg hd] at he
   by_cases ha:l.any (fun s=>decide (5<s.length))=true
   ·rw [if_pos ha] at he;exact absurd he (by decide)
   ·rw [if_neg ha,if_pos (by omega)] at he;exact absurd he (by decide)
 have cF:=ZLE l (by omega) hg False.elim
 obtain ⟨hMo,hMk⟩:=ZT9 hg
 have hFl:∀ i,(ZF5 (ZBT l) (l.take i)).length≤4096:=fun i=>by
  rw [ZES fun s hs=>h5 s (List.mem_of_mem_take hs)]
  have:=ZJe (l:=l) i
  omega
 have hcs:=fun i (h:i<l.length)=>ZNW (M:=ZBT l) h
 have hflat:(ZF5 (ZBT l) l).flatten.length≤100000:=by
  have h1:=ZHl (ZSQ (M:=ZBT l) h5)
  rw [ZES h5] at h1
  omega
 generalize hM:ZBT l=M at *
 refine ZBU ZAd Tryz.func7 rfl rfl fun tl0=>?_
 simp only [Tryz.ntmps7,List.length_cons,List.length_nil,Nat.reduceAdd,Nat.reduceSub,List.replicate_succ,List.replicate_zero,List.cons_append,List.nil_append]
 (repeat' (first |  (refine ZDV (t:=5) rfl ?_;dsimp only [z0,z1])|(apply WL.opN;exact yF;dsimp only [ZB,z0,z1])|refine WL.nil ?_|refine ZA fun Kx hK=>?_|(refine hK _ _ ?_;clear hK)|refine WC.region ?_ |  (refine WL.alloc (dst:=some 2) ZCH (Zj rfl rfl rfl) fun b2=>?_;dsimp only [ZB,z0,z1]) |  (refine WL.alloc (dst:=some 5) ZUN (ZY rfl) fun b5=>?_;dsimp only [ZB,z0,z1]) |  (refine Zw ZRN (OpD.t rfl) (OpD.t rfl) ZLp ?_;dsimp only [ZB,z0,z1]) |  (refine WL.makeMap kvV (fun u:Value × List Vx=>u.1) fun bm=>?_;dsimp only [ZB,z0,z1]) |  (refine ZJw (OpD.t rfl) (by simp) fun bs=>?_;dsimp only [ZB,z0,z1];refine ZEy (K:=Vx) ZE (ZBG 28 ZE (WL.perm ZOk ?_)))|(apply WL.opN;(focus ((first|(exact SY.box (OpD.t rfl) (fun I w v h=>Zt I w v (ZAp I w v h)))|(apply SY.call c1 Tryz.call23;exact ArgsD.cons (OpD.tle rfl ZAp) ArgsD.nil)|(apply SY.call (cF) Tryz.call24;exact ArgsD.cons (OpD.t rfl) (ArgsD.nil))|(exact ZJs (OpD.t rfl))|((first|apply SY.move|apply SY.assign|apply SY.lss|apply SY.neq) <;> (exact oD))|(apply SY.len;(exact oD);(exact nD);(exact uD))|(apply Zs ZCt;exact OpD.t rfl)|fail);all_goals infer_instance));dsimp only [ZB,z0,z1])|(apply ZL;(exact oD);all_goals (intro h;try exact xD))|refine WC.skip ?_|refine WC.block ?_))
 all_goals try (exfalso;first|contradiction|omega)
 (refine WC.loopU (X:=Nat × Value × ZIJ) (fun x=>[(23,dI (x.1:Int)),(8,dA),(24,dA),(25,dA),(26,dA),(27,dA),(28,dA),(29,dA),(30,dA),(31,dA)]) (fun x=>(ZQB bs bm x.2.1 (ZF5 M (l.take x.1)) x.2.2++ZQ b2 30 3 true (dX (.agg #[.slice none 0 0,.slice none 0 0,.slice none 0 0]))::tl0)) (fun x=>l.length-x.1) (fun x=>x.1≤l.length/\Bld (ZF5 M (l.take x.1)).flatten car x.2.2) (0,.slice none 0 0,[]) ?start ?frame0 ?objs0 ?round)
 case start=>exact ⟨Nat.zero_le _,Bld.nil car⟩
 case frame0=>((try dsimp only [ZK,z0,z1]);repeat (first|exact LeF.nil|refine ZD (k:=?_)))
 case objs0=>rfl
 case round =>
  rintro ⟨i,fv,M1⟩ ⟨i1,hB⟩
  simp only at i1 hB
  dsimp only [ZK,z0,z1]
  by_cases hi:i<l.length
  ·have hgi:=hg _ (List.getElem_mem hi)
   have h5i:=h5 _ (List.getElem_mem hi)
   have hlen:=(ZEQ hgi).1
   have hFi:=hFl i
   have hsn:=hcs i hi
   have cD:=fun bs bm=>ZLB bs bm fv (ZF5 M (l.take i)) M1 l[i] (fun m=>m<1048576) (ZPU M l[i]) car (by omega) h5i (by omega) hB
    (fun bl hb i hi=>by have h1:=(ZBv h5i hb).2 i hi;rw [h1.1];omega) (fun bl hb b hbb=>by have:=(ZBv h5i hb).1 b hbb;omega)
    (fun bl hb i hi=>by have h1:=(ZBv h5i hb).2 i hi;rw [h1.1];omega) (fun bl hb j hj=>hcar _ (List.getElem_mem hi) bl hb j hj)
   rw [show ZF5 M (l.take i)++(ZBR (2 ^ l[i].length-1)).map (Zz (ZPU M l[i]) l[i])=ZF5 M (l.take (i+1)) from hsn.symm] at cD
   clear hsn
   ((repeat' (first |  (refine ZDV (t:=8) rfl ?_;dsimp only [z0,z1])|(apply WL.opN;exact yF;dsimp only [ZB,z0,z1])|refine WL.nil ?_|refine ZA fun Kx hK=>?_|(refine hK _ _ ?_;clear hK)|refine WC.region ?_ |  (refine WL.alloc (dst:=some 8) tzAr (ZY rfl) fun b8=>?_;dsimp only [ZB,z0,z1]) |  (refine Zw ZCM (OpD.t rfl) (OpD.t rfl) ZAb ?_;dsimp only [ZB,z0,z1]) |  (refine Z8 (hp1:=ZQB bs bm fv (ZF5 M (l.take i)) M1) (caps:=[]) (cD bs bm) Tryz.call25 OpD.f (ArgsD.cons (OpD.t rfl) (ArgsD.cons (OpD.tle rfl ZSo) (ArgsD.cons (OpD.t rfl) ArgsD.nil))) ?_;rintro d' hp2 ⟨fv',M2,hB2,rfl⟩;dsimp only [ZB,z0,z1,List.cons_append,List.nil_append])|(apply WL.opN;(focus ((first|(refine ZBu (R:=ZKi) (_gR:=inferInstance) ZBx hi rfl (OpD.t rfl) (OpD.t rfl))|(apply ZEw (A:=fun m:MemM=>[dI ((m.1:Nat):Int)]) (r:=fun m:MemM=>dI (ZPU M l[i] m.1)) Tryz.call26 (fun m=>ZSS M l[i] m.1 hgi m.2 hMo hMk) (fun m=>ZNI);(exact aD))|((first|apply SY.move|apply SY.assign|apply SY.lss|apply SY.neq) <;> (exact oD))|((first|apply SY.add) <;> first|exact oD|omega)|fail);all_goals infer_instance));dsimp only [ZB,z0,z1])|(apply ZC;(exact oD);all_goals (intro h;try exact xD))|refine WC.skip ?_|refine WC.block ?_|refine ThenD.n ?_));all_goals (first|((repeat clear hK);(repeat clear Kx))))
   all_goals try (exfalso;first|contradiction|omega)
   refine ⟨(i+1,_,_),?_,by simp only;omega,rfl,?_⟩
   rotate_left
   ·((try dsimp only [ZK,z0,z1]);repeat (first|exact LeF.nil|refine ZD (k:=?_)))
   ·exact ⟨by simp only;omega,hB2⟩
  ·rw [List.take_of_length_le (by omega)] at hB ⊢
   have hbl:=ZJ4 hB
   show WC _ _ _ _ (Zp bs 61 [dX fv,dX (.map (some bm))]::ZW fv 28 ZE (ZF5 M l)::hMC bm kvV M1::ZAm ZE M1::ZQ b2 30 3 true (dX (.agg #[.slice none 0 0,.slice none 0 0,.slice none 0 0]))::tl0)
   refine ZDW (k:=0) rfl ?_
   dsimp only [z0,z1]
   ((repeat' (first|(apply WL.opN;exact yF;dsimp only [ZB,z0,z1])|refine WL.nil ?_|refine ZA fun Kx hK=>?_|(refine hK _ _ ?_;clear hK)|(refine Kont.skip ?_;clear hK)|refine WC.region ?_ |  (refine Z8 (hp1:=[_,_,_]) (caps:=[]) (ZTd bs bm (ZF5 M l) C (ZF5 M l).flatten car M1 hOf hB (Nat.le_trans hbl hflat) (fun p hp=>by rw [hB.car p hp];exact hcl _)) Tryz.call29 OpD.f (ArgsD.cons (OpD.t rfl) ArgsD.nil) ?_;rintro d' hp2 ⟨vC,rfl,rfl⟩;dsimp only [ZB,z0,z1,List.cons_append,List.nil_append]) |  (refine WL.perm (List.Perm.swap _ _ _) (ZN ZAd rfl (OpD.t rfl) ZB3 ?_);dsimp only [ZB,z0,z1])|(apply WL.opN;(focus ((first|((first|apply SY.move|apply SY.assign|apply SY.lss|apply SY.neq) <;> (exact oD))|(apply SY.extract;(exact oD);rfl)|fail);all_goals infer_instance));dsimp only [ZB,z0,z1])|(apply ZC;(exact oD);all_goals (intro h;try exact xD))|refine WC.ret ?_|refine WC.exit ?_));all_goals (first|((repeat clear hK);(repeat clear Kx))))
   all_goals try (exfalso;first|contradiction|omega)
   exact ⟨trivial,_,_,[_],rfl,rfl,rfl,_,rfl,rfl⟩
end
end Go.Proofs.YtlgmojhmmbhgfaaGreatDoor
