/- Part 39: walks by contracts, and plain laws. -/
import Derived.Test.YtlgmojhmmbhgfaaGreatDoorVg37
set_option linter.unusedVariables false
set_option linter.unusedSimpArgs false
set_option linter.unusedSectionVars false
set_option maxRecDepth 100000
set_option maxHeartbeats 4000000
namespace Go.Proofs.YtlgmojhmmbhgfaaGreatDoor
section
open Go.RowKit

abbrev ZTS (S:Prop) (bs bm b9 b8 b11:Nat) (fv:Value) (F:Cx) (M1:ZIJ) (M:ZDz) (s:List Vx):List HObj :=
 [Zp bs 61 [dX fv,dX (.map (some bm))],ZW fv 28 ZE F,hMC bm kvV M1,ZAm ZE M1,ZQ b9 58 1 false (dX (.pointer (some ⟨bs,0,none⟩))),ZQ b8 56 1 false (dS (ZKc kvS RI) M),ZQ b11 28 1 false (dS (ZAx S) s)]
def barHL (S:Prop) (bs bm b9 b8 b11:Nat) (car:Vx->List Vx) (F:Cx) (M:ZDz) (s:List Vx) (pre:List (List Nat)) (hs:List HObj):Prop :=
 ∃ fv M1,Bld (F++pre.map (ZDs M s)).flatten car M1/\hs=ZTS S bs bm b9 b8 b11 fv (F++pre.map (ZDs M s)) M1 M s
set_option maxHeartbeats 32000000 in
theorem ZNL {S:Prop} (l C:Cx) (car:Vx->List Vx) (hl:l.length≤4096) (hck:ZBH l=0) (hg:∀ s∈l,ZAJ s=0) (h5:∀ s∈l,s.length≤5) (hn:ZKS l≤4096) (hbl:(ZBw (ZBT l) l).length≤100000) (hfl:(ZBw (ZBT l) l).flatten.length≤100000)
  (hcar:∀ s∈l,∀ bl∈ZGl (2 ^ s.length-1),∀ k,k<bl.length->okV (ZHW (ZBT l) s bl k)/\car (ZHW (ZBT l) s bl k)=atB s (orB bl (k+1))) (hcl:∀ v,(car v).length≤1000) (hOf:ofP (ZBw (ZBT l) l)=(C,0)) (hS:S->ZRW l) :
  CallC Tryz.prog 10 ([dS (ZTI S) l]++([]:List Value).map dX) [] (fun d hp2=>d=dT [dS ZCb (C,ZBE [] (ZBw (ZBT l) l).flatten,(ZBE [] (ZBw (ZBT l) l).flatten).map car),dI 0]/\hp2=[]):=⟨fun P0 B w0 hp vs W hh hl0 hv=>by
 refine (callsIn_wide (n:=0)).1 (callsIn_of_wp_marks Tryz.func10 rfl trivial ?_ rfl)
 refine wpIn_wide.2 ?_
 have hf0:=ZA8 (m:=103) hl0 hv
 have hsz:vs.toArray.size=1:=by simpa using hl0
 rw [hsz]
 have hnt:Tryz.f10.ntmps=104:=rfl
 rw [hnt]
 simp only [List.length_cons,List.length_nil,Nat.reduceAdd,Nat.reduceSub,List.replicate_succ,List.replicate_zero,List.cons_append,List.nil_append,List.map_nil,List.map_cons] at hf0 hh ⊢
 have hck2:=ZF1 l
 rw [hck] at hck2
 have hF:=ZLE l (by omega) hg hS
 generalize hM:ZBT l=M at *
 have hMk:(M.map (·.1)).Nodup:=by rw [<- hM];exact ZEg _ List.Pairwise.nil
 have hMo:∀ p∈M,okS p.1:=by rw [<- hM];exact ZH0 _ (ZHh hg) (by simp)
 refine (?_:WY Tryz.prog _ P0 B w0 [] _ _ hp).out _ W rfl hh hf0
 refine ZDC fun Kx hK=>?_
 ((repeat' (first|((first|apply WL.opN|apply WD.opN);exact yF;dsimp only [ZB,z0,z1])|refine WL.nil ?_|(refine hK _ _ ?_;clear hK)|refine WC.region ?_ |  (refine WL.alloc (dst:=some 2) ZCH (Zj rfl rfl rfl) fun b2=>?_;dsimp only [ZB,z0,z1])|((first|apply WL.opN|apply WD.opN);(focus ((first|(exact SY.box (OpD.t rfl) (fun I w v h=>Zt I w v (ZAp I w v h)))|fail);all_goals infer_instance));dsimp only [ZB,z0,z1])));all_goals (first|((repeat clear hK);(repeat clear Kx))))
 refine ZDC fun Kx hK=>?_
 ((repeat' (first|((first|apply WL.opN|apply WD.opN);exact yF;dsimp only [ZB,z0,z1])|refine WL.nil ?_|refine ZA fun Kx hK=>?_|(refine hK _ _ ?_;clear hK)|refine WC.region ?_|((first|apply WL.opN|apply WD.opN);(focus ((first|(apply SY.call hck2 Tryz.call33;exact ArgsD.cons (OpD.tle rfl ZAp) ArgsD.nil)|((first|apply SY.move|apply SY.assign|apply SY.lss|apply SY.gtr|apply SY.neq|apply SY.or) <;> (exact oD))|fail);all_goals infer_instance));dsimp only [ZB,z0,z1])|(apply ZL;(exact oD);all_goals (intro h;try exact xD))|refine WC.skip ?_));all_goals (first|((repeat clear hK);(repeat clear Kx))))
 all_goals try (exfalso;first|contradiction|omega)
 refine ZDC fun Kx hK=>?_
 ((repeat' (first|((first|apply WL.opN|apply WD.opN);exact yF;dsimp only [ZB,z0,z1])|refine WL.nil ?_|(refine hK _ _ ?_;clear hK)|refine WC.region ?_));all_goals (first|((repeat clear hK);(repeat clear Kx))))
 refine ZDC fun Kx hK=>?_
 (repeat' (first|((first|apply WL.opN|apply WD.opN);exact yF;dsimp only [ZB,z0,z1])|refine WL.nil ?_|refine ZA fun Kx hK=>?_|(refine hK _ _ ?_;clear hK)|refine WC.region ?_|((first|apply WL.opN|apply WD.opN);(focus ((first|(apply SY.len;(exact oD);(exact nD);(exact uD))|(apply Zs ZCt;exact OpD.t rfl)|fail);all_goals infer_instance));dsimp only [ZB,z0,z1])|refine WC.block ?_))
 (refine WC.loopU (X:=Nat) (fun i=>[(5,dI ((ZKS (l.take i):Nat):Int)),(27,dI (i:Int)),(7,dA),(28,dA),(29,dA),(30,dA),(31,dA),(32,dA),(33,dA),(34,dA),(35,dA),(36,dA)]) (fun i=>(ZQ b2 30 3 true (dX (.agg #[.slice none 0 0,.slice none 0 0,.slice none 0 0]))::hp)) (fun i=>l.length-i) (fun i=>i≤l.length) 0 ?start ?frame0 ?objs0 ?round)
 case start=>exact Nat.zero_le _
 case frame0=>((try dsimp only [ZK,z0,z1]);repeat (first|exact LeF.nil|refine ZD (k:=?_)))
 case objs0=>rfl
 case round =>
  rintro i h1
  dsimp only [ZK,z0,z1]
  by_cases hi:i<l.length
  ·have hs5:=h5 _ (List.getElem_mem hi)
   have hfi:=ZKC l[i].length (by omega)
   have hf4:=ZGB ⟨l[i].length,by omega⟩
   simp only at hf4
   have hsl:=ZPF (l:=l) i
   have hss:=ZJd hi
   ((repeat' (first|((first|apply WL.opN|apply WD.opN);exact yF;dsimp only [ZB,z0,z1])|refine WL.nil ?_|refine ZA fun Kx hK=>?_|(refine hK _ _ ?_;clear hK)|refine WC.region ?_|((first|apply WL.opN|apply WD.opN);(focus ((first|(apply SY.call (hfi) Tryz.call34;(exact aD))|((first|apply SY.move|apply SY.assign|apply SY.lss|apply SY.gtr|apply SY.neq|apply SY.or) <;> (exact oD))|((first|apply SY.add|apply SY.sub) <;> first|exact oD|omega)|(apply SY.len;(exact oD);(exact nD);(exact uD))|(apply ZAw;(exact eD);(exact oD);(exact oD);exact kD)|fail);all_goals infer_instance));dsimp only [ZB,z0,z1])|(apply ZC;(exact oD);all_goals (intro h;try exact xD))|refine WC.skip ?_|refine WC.block ?_|refine ThenD.n ?_));all_goals (first|((repeat clear hK);(repeat clear Kx))))
   all_goals try (exfalso;first|contradiction|omega)
   rw [show ((ZKS (l.take i):Nat):Int)+((ZKA l[i].length:Nat):Int)=((ZKS (l.take (i+1)):Nat):Int) by rw [hss];simp]
   (refine ⟨i+1,?_,by first|omega|(simp only;omega),rfl,?_⟩;rotate_left;((try dsimp only [ZK,z0,z1]);repeat (first|exact LeF.nil|refine ZD (k:=?_)));(try dsimp only))
   omega
  ·rw [List.take_of_length_le (by omega)]
   ((repeat' (first|refine WL.nil ?_|refine ZA fun Kx hK=>?_|(refine hK _ _ ?_;clear hK)|(refine Kont.skip ?_;clear hK)|refine WC.region ?_|((first|apply WL.opN|apply WD.opN);(focus ((first|((first|apply SY.move|apply SY.assign|apply SY.lss|apply SY.gtr|apply SY.neq|apply SY.or) <;> (exact oD))|fail);all_goals infer_instance));dsimp only [ZB,z0,z1])|(apply ZC;(exact oD);all_goals (intro h;try exact xD))|refine WC.exit ?_));all_goals (first|((repeat clear hK);(repeat clear Kx))))
   all_goals try (exfalso;first|contradiction|omega)
   have hpw:∀ n:Fin 6,0<n.val->((2 ^ n.val-1:Nat)≠0/\(2 ^ n.val-1:Nat)<32):=by decide
   refine ZDC fun Kx hK=>?_
   ((repeat' (first|((first|apply WL.opN|apply WD.opN);exact yF;dsimp only [ZB,z0,z1])|refine WL.nil ?_|refine ZA fun Kx hK=>?_|(refine hK _ _ ?_;clear hK)|refine WC.region ?_|((first|apply WL.opN|apply WD.opN);(focus ((first|((first|apply SY.move|apply SY.assign|apply SY.lss|apply SY.gtr|apply SY.neq|apply SY.or) <;> (exact oD))|fail);all_goals infer_instance));dsimp only [ZB,z0,z1])|(apply ZC;(exact oD);all_goals (intro h;try exact xD))|refine WC.skip ?_));all_goals (first|((repeat clear hK);(repeat clear Kx))))
   all_goals try (exfalso;first|contradiction|omega)
   refine ZDC fun Kx hK=>?_
   ((repeat' (first|((first|apply WL.opN|apply WD.opN);exact yF;dsimp only [ZB,z0,z1])|refine WL.nil ?_|(refine hK _ _ ?_;clear hK)|refine WC.region ?_ |  (refine WL.alloc (dst:=some 8) ZUN (ZY rfl) fun b8=>?_;dsimp only [ZB,z0,z1]) |  (refine Zw ZRN (OpD.t rfl) (OpD.t rfl) ZLp ?_;dsimp only [ZB,z0,z1])|((first|apply WL.opN|apply WD.opN);(focus ((first|(apply SY.call (hF) Tryz.call24;(exact aD))|fail);all_goals infer_instance));dsimp only [ZB,z0,z1])));all_goals (first|((repeat clear hK);(repeat clear Kx))))
   refine ZDC fun Kx hK=>?_
   ((repeat' (first|refine WL.nil ?_|(refine hK _ _ ?_;clear hK)|refine WC.region ?_ |  (refine WL.makeMap kvV (fun u:Value × List Vx=>u.1) fun bm=>?_;dsimp only [ZB,z0,z1]) |  (refine ZJw (OpD.t rfl) (by simp) fun bs=>?_;dsimp only [ZB,z0,z1]) |  (refine WL.alloc (dst:=some 9) tzBp (ZY rfl) fun b9=>?_;dsimp only [ZB,z0,z1]) |  (refine Zw ZTH (OpD.t rfl) (OpD.t rfl) (ZY rfl) ?_;dsimp only [ZB,z0,z1];refine ZEy (K:=Vx) ZE (ZBG 28 ZE ?_))|((first|apply WL.opN|apply WD.opN);(focus ((first|(exact ZJs (OpD.t rfl))|fail);all_goals infer_instance));dsimp only [ZB,z0,z1])));all_goals (first|((repeat clear hK);(repeat clear Kx))))
   refine WY.seq ?_
   refine ZDC fun Kx hK=>?_
   ((repeat' (first|((first|apply WL.opN|apply WD.opN);exact yF;dsimp only [ZB,z0,z1])|refine WL.nil ?_|(refine hK _ _ ?_;clear hK)|refine WC.region ?_|((first|apply WL.opN|apply WD.opN);(focus ((first|(apply SY.len;(exact oD);(exact nD);(exact uD))|(apply Zs ZCt;exact OpD.t rfl)|fail);all_goals infer_instance));dsimp only [ZB,z0,z1])));all_goals (first|((repeat clear hK);(repeat clear Kx))))
   refine WK.perm ZMQ ?_
   refine WY.block ?_
   (refine WY.loopU (D:=fun x:Nat × List Nat × Value × ZIJ=>x.2.1.map ZT6) (X:=Nat × List Nat × Value × ZIJ) (fun x=>[(48,dI (x.1:Int)),(11,dA),(12,dA),(13,dA),(14,dA),(15,dA),(16,dA),(17,dA),(49,dA),(50,dA),(51,dA),(52,dA),(53,dA),(54,dA),(55,dA),(56,dA),(58,dA),(59,dA),(60,dA),(61,dA),(62,dA),(63,dA),(64,dA),(65,dA),(66,dA),(67,dA),(68,dA),(69,dA),(70,dA),(71,dA),(72,dA),(73,dA),(74,dA),(75,dA),(76,dA),(77,dA),(78,dA),(79,dA),(80,dA),(81,dA),(82,dA),(83,dA),(84,dA),(85,dA),(86,dA),(87,dA),(88,dA),(89,dA),(90,dA),(91,dA),(92,dA),(93,dA),(94,dA),(95,dA),(96,dA),(97,dA),(98,dA),(99,dA)]) (fun x=>([Zp bs 61 [dX x.2.2.1,dX (.map (some bm))],ZW x.2.2.1 28 ZE (ZBw M (l.take x.1)),hMC bm kvV x.2.2.2,ZAm ZE x.2.2.2,ZQ b9 58 1 false (dX (.pointer (some ⟨bs,0,none⟩))),ZQ b8 56 1 false (dS (ZKc kvS RI) M)]++(x.2.1.map ZOP++(ZQ b2 30 3 true (dX (.agg #[.slice none 0 0,.slice none 0 0,.slice none 0 0]))::hp)))) (fun x=>l.length-x.1) (fun x=>x.1≤l.length/\Bld (ZBw M (l.take x.1)).flatten car x.2.2.2) (0,[],.slice none 0 0,[]) ?start ?frame0 ?objs0 ?dfs0 ?round)
   case start=>exact ⟨Nat.zero_le _,Bld.nil car⟩
   case frame0=>((try dsimp only [ZK,z0,z1]);repeat (first|exact LeF.nil|refine ZD (k:=?_)))
   case objs0=>rfl
   case dfs0=>rfl
   case round =>
    rintro ⟨i,ks,fv,M1⟩ K ⟨g1,g2⟩ hKn
    simp only at g1 g2 hKn
    dsimp only [ZK,z0,z1]
    refine WY.seq (WY.region (WV.op rfl (SY.lss (OpD.t rfl) (OpD.t rfl)) (ZFx ?_)))
    dsimp only [ZB,z0,z1]
    by_cases hi:i<l.length
    ·have hs5:=h5 _ (List.getElem_mem hi)
     have hgi:=hg _ (List.getElem_mem hi)
     have hs1:=(ZEQ hgi).1
     obtain ⟨hp0,hp1⟩:=hpw ⟨l[i].length,by omega⟩ (by simp only;omega)
     simp only at hp0 hp1
     have hshl:=ZEb ⟨l[i].length,by omega⟩
     simp only at hshl
     refine WY.seq (ZPv (OpD.t rfl) (by simpa using hi) (ZPw (WY.seq (WY.block (WY.seq (WY.region ?_))))))
     refine WV.op rfl (ZAw (R:=ZAx S) (_gR:=inferInstance) ZBx (OpD.t rfl) (OpD.t rfl) hi) ?_
     dsimp only [ZB,z0,z1]
     refine WV.op rfl (SY.load ZCM (OpD.t rfl)) ?_
     dsimp only [ZB,z0,z1]
     refine ZM4 (SW.alloc tzAr (ZY rfl)) fun b11=>?_
     dsimp only [ZB,z0,z1]
     refine ZM4 (ZIR ZCM (OpD.t rfl) (OpD.t rfl) ZAb) fun _=>ZFx ?_
     dsimp only [ZB,z0,z1]
     refine WY.seq (WY.region ?_)
     refine WV.op rfl (ZAN ZCM (OpD.t rfl) (.head _)) ?_
     dsimp only [ZB,z0,z1]
     refine WV.op rfl (SY.len (OpD.t rfl) ZMN elV.unt) ?_
     dsimp only [ZB,z0,z1]
     refine WV.op rfl (ZFt hshl (by omega) OpD.i (OpD.t rfl)) ?_
     dsimp only [ZB,z0,z1]
     refine WV.op rfl (ZHN (c:=((2 ^ l[i].length-1:Nat):Int)) (by omega) (by omega) (OpD.t rfl) OpD.i) ?_
     dsimp only [ZB,z0,z1]
     refine ZM4 (ZDU (hp1:=[]) (β:=Value) (H:=fun vq=>[ZAC vq (dP 1 false (dI ((2 ^ l[i].length-1:Nat):Int)))]) (D:=fun vq=>dX (.func (.func 76) #[] [vq].toArray)) (caps:=[]) (ZQ3 (2 ^ l[i].length-1)) Tryz.call35 OpD.f (by (exact aD)) (fun d hp2 ⟨v,h1,h2⟩=>⟨v,h1,h2⟩)) fun vq=>ZFx ?_
     dsimp only [ZB,z0,z1,List.cons_append,List.nil_append]
     refine WK.perm ZLg (WY.block ?_)
     refine ZM5 (D:=fun bl=>dIf (bl∈ZGl (2 ^ l[i].length-1)) (dS ZBt (Zv bl))) (barHL S bs bm b9 b8 b11 car (ZBw M (l.take i)) M l[i]) _ (OpD.t rfl) Tryz.call76 (ZS3 (2 ^ l[i].length-1) hp0 hp1 vq) ⟨fv,M1,by simpa using g2,by simp⟩ (by repeat (first|exact FixF.nil|apply FixF.x|apply FixF.a)) (by simp) ?_ ?_
     ·rintro l' pre bl hs q hlt ⟨fv1,M2,hB1,rfl⟩
      dsimp only [z0,z1]
      refine ZJz (t:=12) rfl (fun _ _ _ h=>h.1) fun hmem=>?_
      rw [ZK8 hmem]
      have hsi:=List.getElem_mem hi
      have hSs:S->∀ v∈l[i],(0≤v.1/\v.1<100)/\0≤v.2/\v.2<100:=fun q=>hS q _ hsi
      have hmP:bl∈ZBR (2 ^ l[i].length-1):=(List.mem_filter.1 hmem).1
      have hbb:∀ b∈bl,b<1048576:=fun b hb=>by have:=ZJO _ hp1 bl hmP b hb;omega
      have hb6:=ZLe _ bl hmP
      have hol:=ZE6 l[i].length hs5
      have hcc:=hcar l[i] hsi bl hmem
      have hFl:=ZSK (M:=M) (l:=l) i
      have hpre:(ZBw M (l.take i)++pre.map (ZDs M l[i])).length≤1000000:=by
       rw [List.length_append,List.length_map];omega
      refine WR.mono (Q:=fun e _ q2=>e = .normal/\∃ fv' M',Bld ((ZBw M (l.take i)++pre.map (ZDs M l[i]))++[ZDs M l[i] bl]).flatten car M'/\q2=ZTS S bs bm b9 b8 b11 fv' ((ZBw M (l.take i)++pre.map (ZDs M l[i]))++[ZDs M l[i] bl]) M' M l[i]++q) ?_ (fun e f p ⟨he,fv',M',hB',hq⟩=>⟨he,_,⟨fv',M',by rw [List.map_append,List.map_cons,List.map_nil,<- List.append_assoc];exact hB',rfl⟩,by rw [List.map_append,List.map_cons,List.map_nil,<- List.append_assoc];exact hq⟩)
      generalize ZBw M (l.take i)++pre.map (ZDs M l[i])=F at *
      have hlen8:l[i].length≤8:=by omega
      clear hcar hOf hbl hfl hF hck2 hn hFl
      generalize l[i]=s at *
      dsimp only [List.cons_append,List.nil_append]
      refine WR.block ?_
      (repeat' (first|((first|apply I.WL.opN|apply WD.opN);exact yF;dsimp only [ZB,z0,z1])|refine I.WL.nil ?_|refine ZCQ fun Kx hK=>?_|(refine hK _ _ ?_;clear hK)|refine WR.region rfl ?_|((first|apply I.WL.opN|apply WD.opN);(focus ((first|(apply SY.len;(exact oD);(exact nD);(exact uD))|fail);all_goals infer_instance));dsimp only [ZB,z0,z1])|refine WR.block ?_))
      refine ZL4 43 2 (by decide) RV ?_
      rw [ZBA]
      (refine WR.loopU (X:=Nat × Value × ZIJ) (fun x=>[(60,dI (x.1:Int)),(13,dX x.2.1),(14,dI ((orB bl x.1:Nat):Int)),(15,dA),(16,dA),(17,dA),(61,dA),(62,dA),(63,dA),(64,dA),(65,dA),(66,dA),(67,dA),(68,dA),(69,dA),(70,dA),(71,dA),(72,dA),(73,dA),(74,dA),(75,dA),(76,dA),(77,dA),(78,dA),(79,dA),(80,dA),(81,dA),(82,dA),(83,dA),(84,dA),(85,dA),(86,dA),(87,dA),(88,dA)]) (fun x=>(ZV x.2.1 43 2 RV ((ZDs M s bl).take x.1)::Zp bs 61 [dX fv1,dX (.map (some bm))]::ZW fv1 28 ZE F::hMC bm kvV x.2.2::ZAm ZE x.2.2::ZQ b9 58 1 false (dX (.pointer (some ⟨bs,0,none⟩)))::ZQ b8 56 1 false (dS (ZKc kvS RI) M)::ZQ b11 28 1 false (dS (ZAx S) s)::q)) (fun x=>bl.length-x.1) (fun x=>x.1≤bl.length/\Bld (F.flatten++(ZDs M s bl).take x.1) car x.2.2) (0,.slice none 0 0,M2) ?start ?frame0 ?objs0 ?round)
      case start=>exact ⟨Nat.zero_le _,by simpa using hB1⟩
      case frame0=>((try dsimp only [ZK,z0,z1]);repeat (first|exact LeF.nil|refine ZD (k:=?_)))
      case objs0=>rfl
      case round =>
       rintro ⟨k,vx,M3⟩ ⟨k1,k2⟩
       simp only at k1 k2
       dsimp only [ZK,z0,z1]
       have hbl2:(ZDs M s bl).length=bl.length:=ZEO
       have hvl:((ZDs M s bl).take k).length≤1000:=by rw [List.length_take];omega
       by_cases hk:k<bl.length
       ·have hkb:k<(ZDs M s bl).length:=by omega
        obtain ⟨c1,c2⟩:=hcc k hk
        have ho1:=ZRs hbb k
        have ho2:=hbb _ (List.getElem_mem hk)
        have ho3:=ZRs hbb (k+1)
        rw [ZEh hk] at ho3
        have hface:=ZNt (S:=S) s (orB bl k ||| bl[k]) (by omega) ho3
        have hface2:=ZNu s (orB bl k ||| bl[k]) (by omega) ho3
        have hfl1:=ZE0 s (orB bl k ||| bl[k])
        have hfv:∀ v∈atB s (orB bl k ||| bl[k]),okL v:=fun v hv=>ZJN hgi v (ZHV _ _ v hv)
        have htext:=ZKT (atB s (orB bl k ||| bl[k])) (by omega) hfv fun q v hv=>⟨(hSs q v (ZHV _ _ v hv)).1.2,(hSs q v (ZHV _ _ v hv)).2.2⟩
        have htl:=ZEo hfv
        have hok1:okS (txS (atB s (orB bl k ||| bl[k]))):=by unfold okS;omega
        have hx:ZHW M s bl k=((k:Int),ZPW M (atB s (orB bl k ||| bl[k]))):=by unfold ZHW;rw [ZEh hk]
        rw [hx,ZEh hk] at c2
        rw [hx] at c1
        obtain ⟨tx,htx⟩:∃ tx,tx=txS (atB s (orB bl k ||| bl[k])):=⟨_,rfl⟩
        have hnu:ZPW M (atB s (orB bl k ||| bl[k]))=(lookM M tx).getD 0:=by unfold ZPW;rw [<- htx]
        rw [<- htx] at htext hok1
        rw [hnu] at c1 c2 hx
        have hget:(ZDs M s bl)[k]=((k:Int),(lookM M tx).getD 0):=by rw [ZDa,hx]
        (repeat' (first |  (refine WR.drawW (β:=Nat) 8 (fun b17=>ZQ b17 43 2 true (dX (.agg [.int .i64 0,.int .i64 0].toArray))::ZV vx 43 2 RV ((ZDs M s bl).take k)::Zp bs 61 [dX fv1,dX (.map (some bm))]::ZW fv1 28 ZE F::hMC bm kvV M3::ZAm ZE M3::ZQ b9 58 1 false (dX (.pointer (some ⟨bs,0,none⟩)))::ZQ b8 56 1 false (dS (ZKc kvS RI) M)::ZQ b11 28 1 false (dS (ZAx S) s)::q) (fun b17=>dX (.pointer (some ⟨b17,0,none⟩))) _ rfl (by kernel_rfl) (by kernel_rfl) rfl ?_;simp only [List.take_succ_cons,List.take_zero,List.drop_succ_cons,List.drop_zero])|((first|apply I.WL.opN|apply WD.opN);exact yF;dsimp only [ZB,z0,z1])|refine I.WL.nil ?_|refine ZCQ fun Kx hK=>?_|(refine hK _ _ ?_;clear hK)|refine WR.region rfl ?_|((first|apply I.WL.opN|apply WD.opN);(focus ((first|(refine ZKf elI (OpD.t rfl) (OpD.t rfl) hk)|(refine ZKh (a:=orB bl k) (b:=bl[k]) (by omega) (by omega) (OpD.t rfl) (OpD.t rfl))|((first|apply SY.move|apply SY.assign|apply SY.lss|apply SY.gtr|apply SY.neq|apply SY.or) <;> (exact oD))|fail);all_goals infer_instance));dsimp only [ZB,z0,z1])|(apply ZFX;(exact oD);all_goals (intro h;try exact xD))|refine WR.skip ?_|refine WR.block ?_))
        all_goals try (exfalso;first|contradiction|omega)
        (repeat' (first|refine WDs.nil ?_|(apply WDs.op;(focus (intro c;apply ZF;(exact ZR rfl);((first|(apply ZAN;exact ZRN;exact OpD.t rfl;exact HH.mem (.tail _ (.tail _ (.tail _ (.tail _ (.tail _ (.tail _ (.head _))))))) (fun _=>.tail _ (.tail _ (.tail _ (.tail _ (.tail _ (.tail _ (.tail _ (.head _)))))))))|(apply ZAN;exact ZCM;exact OpD.t rfl;exact HH.mem (.tail _ (.tail _ (.tail _ (.tail _ (.tail _ (.tail _ (.tail _ (.head _)))))))) (fun _=>.tail _ (.tail _ (.tail _ (.tail _ (.tail _ (.tail _ (.tail _ (.tail _ (.head _))))))))))|(apply SY.call (hface) Tryz.call28;(exact aD))|(apply SY.call (htext) Tryz.call27;(exact aD))|(refine ZFW (v:=tx) (a0:=(0:Int)) ZDk ZJG (OpD.t rfl) (OpD.t rfl) isX hok1 hMo hMk (fun _ _=>rfl))|((first|apply SY.move|apply SY.assign|apply SY.lss|apply SY.gtr|apply SY.neq|apply SY.or) <;> (exact oD))|(first|(apply SY.fld0 vxT <;> (exact oD))|(apply SY.fld1 vxT <;> (exact oD))|(apply ZFr vxT <;> (exact oD))|(apply ZFs vxT <;> (exact oD))|(apply ZGs vxT <;> (exact oD))|(apply ZMr vxT <;> (exact oD)))|fail);all_goals infer_instance)));dsimp only [ZB,z0,z1])))
        refine ⟨SW.alloc tzVx (ZLq rfl rfl),fun b17=>?_⟩
        dsimp only [ZB,z0,z1]
        ((repeat' (first |  (apply WR.drawTail 8;kernel_rfl;kernel_rfl;rfl;simp only [List.take_succ_cons,List.take_zero,List.drop_succ_cons,List.drop_zero])|((first|apply I.WL.opN|apply WD.opN);exact yF;dsimp only [ZB,z0,z1])|refine I.WL.nil ?_|refine WD.nil ?_|refine ZCQ fun Kx hK=>?_|(refine hK _ _ ?_;clear hK)|refine WR.region rfl ?_ |  (refine I.Zw tyV (OpD.t rfl) (OpD.t rfl) ZAV ?_;dsimp only [ZB,z0,z1]) |  (refine I.WL.perm ZOj (I.ZHR (R:=ZE) ZDj ZGN (OpD.t rfl) (OpD.t rfl) ⟨fun _ _ _ h=>h⟩ (OpD.t rfl) c1 k2.ok k2.nodup fun cv=>?_);refine I.WL.perm ZS6 (I.WL.drop ?_);dsimp only [ZB])|((apply (I.WL.perm (List.Perm.swap _ _ _));(first|apply I.ZBJ|apply I.ZA6);(exact eD);exact OpD.t rfl;(exact oD);(intro _;exact hD);(exact (by simp));(exact (by simp));(first|exact ⟨by decide,by decide⟩|skip);decide;(exact lD);(intro _;dsimp only [ZB,z0,z1]);all_goals (try infer_instance)))|((first|apply I.WL.opN|apply WD.opN);(focus ((first|(apply ZAN;exact tyV;exact OpD.t rfl;exact .head _)|(apply ZAN;exact ZTH;exact OpD.t rfl;exact .tail _ (.tail _ (.tail _ (.tail _ (.tail _ (.tail _ (.head _)))))))|(exact ZBk (OpD.t rfl))|(refine Ze ZPX (OpD.t rfl) (by decide))|(refine Zb ZMZ (OpD.t rfl) (.tail _ (.tail _ (.head _))) rfl)|(apply ZAN;exact tyV;exact OpD.t rfl;exact .tail _ (.head _))|(apply ZAN;exact ZCM;exact OpD.t rfl;exact .tail _ (.tail _ (.tail _ (.tail _ (.tail _ (.tail _ (.tail _ (.tail _ (.head _)))))))))|(apply SY.call hface2 Tryz.call28;exact ArgsD.cons (OpD.tle rfl ZSo) (ArgsD.cons (OpD.t rfl) ArgsD.nil))|((first|apply SY.add|apply SY.sub) <;> first|exact oD|omega)|fail);all_goals infer_instance));dsimp only [ZB,z0,z1])|refine ThenD.n ?_));all_goals (first|((repeat clear hK);(repeat clear Kx))))
        all_goals try (exfalso;first|contradiction|omega)
        rw [<- c2,<- hget,<- List.take_succ_eq_append_getElem hkb,<- ZEh hk]
        (refine ⟨(k+1,_,ZBy M3 (ZDs M s bl)[k] (cv,car (ZDs M s bl)[k])),?_,by first|omega|(simp only;omega),rfl,?_⟩;rotate_left;((try dsimp only [ZK,z0,z1]);repeat (first|exact LeF.nil|refine ZD (k:=?_)));(try dsimp only))
        refine ⟨by omega,?_⟩
        rw [List.take_succ_eq_append_getElem hkb,<- List.append_assoc]
        exact k2.put (by rw [hget];exact c1) cv
       ·have hkl:k=bl.length:=by omega
        rw [List.take_of_length_le (by omega)] at k2 ⊢
        refine ZPt (t:=13) rfl (WR.perm (List.Perm.swap _ _ _) ?_)
        dsimp only [z0,z1]
        (repeat' (first |  (refine WR.drawW (β:=Value) 7 (fun v'=>ZW v' 28 ZE (F++[ZDs M s bl])::Zp bs 61 [dX fv1,dX (.map (some bm))]::hMC bm kvV M3::ZAm ZE M3::ZQ b9 58 1 false (dX (.pointer (some ⟨bs,0,none⟩)))::ZQ b8 56 1 false (dS (ZKc kvS RI) M)::ZQ b11 28 1 false (dS (ZAx S) s)::q) (fun v'=>dX v') _ rfl (by kernel_rfl) (by kernel_rfl) rfl ?_;simp only [List.take_succ_cons,List.take_zero,List.drop_succ_cons,List.drop_zero])|refine I.WL.nil ?_|refine ZCQ fun Kx hK=>?_|(refine hK _ _ ?_;clear hK)|(refine Kont.skip ?_;clear hK)|refine WR.region rfl ?_|((first|apply I.WL.opN|apply WD.opN);(focus ((first|((first|apply SY.move|apply SY.assign|apply SY.lss|apply SY.gtr|apply SY.neq|apply SY.or) <;> (exact oD))|fail);all_goals infer_instance));dsimp only [ZB,z0,z1])|(apply ZFX;(exact oD);all_goals (intro h;try exact xD))|refine WR.exit ?_))
        all_goals try (exfalso;first|contradiction|omega)
        (repeat' (first|refine WDs.nil ?_|(apply WDs.op;(focus (intro c;apply ZF;(exact ZR rfl);((first|(apply ZAN;exact ZTH;exact OpD.t rfl;exact HH.mem (.tail _ (.tail _ (.tail _ (.tail _ (.head _))))) (fun _=>.tail _ (.tail _ (.tail _ (.tail _ (.head _))))))|(exact ZBk (OpD.t rfl))|(refine Ze ZPX (OpD.t rfl) (by decide))|(refine Zb ZCl (OpD.t rfl) (HH.mem (.tail _ (.head _)) (fun _=>.tail _ (.head _))) rfl)|((first|apply SY.move|apply SY.assign|apply SY.lss|apply SY.gtr|apply SY.neq|apply SY.or) <;> (exact oD))|(apply SY.build1';(exact eD);((try simp only [List.map_cons,List.map_nil]);(repeat (first|exact Zq|(apply Zh;(first|exact OpD.t rfl|exact OpD.i|exact OpD.b|exact OpD.tle rfl (by first|exact ZI|exact ZH (by decide))|exact ⟨ZI⟩|exact ⟨ZH (by decide)⟩)))));rfl;rfl;(intro _;first|exact ZAb|exact ZA4|exact ZAa|exact ZBP);(exact (by simp)))|fail);all_goals infer_instance)));dsimp only [ZB,z0,z1])))
        refine ⟨SW.app1 ZBx (OpD.t rfl) (OpD.t rfl) (by decide) (by simp;omega),fun v'=>?_⟩
        dsimp only [ZB,z0,z1]
        refine I.ZB5 (.head _) fun ⟨ad,c,hv'⟩=>?_
        ((repeat' (first|refine I.WL.nil ?_ |  (refine I.WL.perm (List.Perm.swap _ _ _) (I.Z1 ZCl (OpD.t rfl) (OpD.t rfl) (ZY (by rw [hv'];rfl)) (by simp) ?_);dsimp only [ZB,z0,z1,Nat.add_zero])|((first|apply I.WL.opN|apply WD.opN);(focus ((first|(exact ZBk (OpD.t rfl))|(refine Ze ZPX (OpD.t rfl) (by decide))|fail);all_goals infer_instance));dsimp only [ZB,z0,z1])|refine InBlockD.n ?_));all_goals (first|((repeat clear hK);(repeat clear Kx))))
        all_goals try (exfalso;first|contradiction|omega)
        exact ⟨rfl,v',M3,by rw [ZJY];exact k2,rfl⟩
     ·rintro kk hs ⟨fv1,M2,hB1,rfl⟩
      refine ZIY (ZIY (ZKn ?_))
      rw [<- ZNF hi] at hB1 ⊢
      refine WY.region (WV.op rfl (SY.add (OpD.t rfl) OpD.i (by omega)) ?_)
      dsimp only [ZB,z0,z1]
      refine WV.op rfl (SY.move (OpD.t rfl)) (ZFx ?_)
      dsimp only [ZB,z0,z1]
      refine WK.perm ZOl (WK.drop (WK.drop ?_))
      refine ZKp ?_ (hKn (i+1,kk::ks,fv1,M2) ⟨by omega,hB1⟩ (by omega))
      ((try dsimp only [ZK,z0,z1]);repeat (first|exact LeF.nil|refine ZD (k:=?_)))
    ·have hil:i=l.length:=by omega
     subst hil
     rw [List.take_length] at g2 ⊢
     refine WY.seq (ZPu (OpD.t rfl) (by simp) (WY.exit (ZKo (ZKo (ZMu (ZKn ?_))))))
     dsimp only [List.cons_append,List.nil_append]
     refine WY.seq (WY.region ?_)
     refine WV.op rfl (ZAN ZTH (OpD.t rfl) (.tail _ (.tail _ (.tail _ (.tail _ (.head _)))))) ?_
     dsimp only [ZB,z0,z1]
     refine ZPh (k:=0) rfl ?_
     dsimp only [z0,z1]
     refine ZM4 (ZDU (hp1:=[_,_,_]) (β:=Unit) (H:=fun _=>[]) (D:=fun _=>dT [dS ZCb (C,ZBE [] (ZBw M l).flatten,(ZBE [] (ZBw M l).flatten).map car),dI 0]) (caps:=[]) (ZRl bs bm (ZBw M l) C (ZBw M l).flatten car M1 hOf g2 (Nat.le_trans (ZJ4 g2) hfl) (fun p hp=>by rw [g2.car p hp];exact hcl _)) Tryz.call29 OpD.f (ArgsD.cons (OpD.t rfl) ArgsD.nil) (fun d hp2 ⟨h1,h2⟩=>⟨(),h1,h2⟩)) fun _=>?_
     dsimp only [ZB,z0,z1,List.nil_append]
     refine WV.op rfl (SY.extract (OpD.t rfl) rfl) ?_
     dsimp only [ZB,z0,z1]
     refine WV.op rfl (SY.extract (OpD.t rfl) rfl) ?_
     dsimp only [ZB,z0,z1]
     refine WK.drop (WK.drop (WK.perm List.perm_middle ?_))
     refine ZM4 (ZIR ZAd (OpD.t rfl) (OpD.t rfl) Zn) fun _=>?_
     dsimp only [ZB,z0,z1]
     refine WV.op rfl (SY.assign (OpD.t rfl)) (ZFx ?_)
     dsimp only [ZB,z0,z1]
     refine WY.ret (WK.perm List.perm_middle.symm (WK.of fun a w ha hh2 hf2=>?_))
     show LeavesInM _ _ _ _ _ _ _ _ _
     rw [ha]
     refine ZOK (by simp) ks w hh2 fun w' hh' hd'=>?_
     obtain ⟨cs,u,c1,c2,c0,c3,c4,c5⟩:=hh'.ok (ZQ b2 30 3 true (dS ZCb (C,ZBE [] (ZBw M l).flatten,(ZBE [] (ZBw M l).flatten).map car))) (by simp)
     have h2:a.tmps.getD 2 undef = .pointer (some ⟨b2,0,none⟩):=hf2.rd 2 _ rfl
     have h3:(dI 0).rd (Imm P0 B _) w (a.tmps.getD 3 undef):=hf2.rd 3 _ rfl
     refine ⟨_,ZBn ZAd rfl h2 (ZAi (I:=fun _=>True) c1 c2 c0 c3 c4 trivial),_,_,[],rfl,⟨rfl,rfl⟩,hh'.drop,[u,a.tmps.getD 3 undef],rfl,rfl,fun j e x he hx=>?_⟩
     match j,he,hx with
     | 0,he,hx=>cases he;cases hx;exact (dS ZCb _).weak c5 Imm.sub
     | 1,he,hx=>cases he;cases hx;exact h3⟩
end
end Go.Proofs.YtlgmojhmmbhgfaaGreatDoor
