/- Part 48: walks by contracts, and plain laws. -/
import Derived.Test.YtlgmojhmmbhgfaaGreatDoorVg44
import Derived.Test.YtlgmojhmmbhgfaaGreatDoorVg47
set_option linter.unusedVariables false
set_option linter.unusedSimpArgs false
set_option linter.unusedSectionVars false
set_option maxRecDepth 100000
set_option maxHeartbeats 4000000
namespace Go.Proofs.YtlgmojhmmbhgfaaGreatDoor
section
open Go.RowKit
theorem gain_S {l:Cx} {P:Nat->Prop} {w:World} {v:Value} (h:(dS Zc l).rd P w v) (q:l=[]\/LaidIn P w):(dS ZTJ l).rd P w v:=by
 obtain ⟨a,cap,hv,h1,h2,h3⟩:=(h:Zc P w v l)
 refine ⟨a,cap,hv,h1,h2,fun k hk=>?_⟩
 obtain ⟨u,b,off,r1,r⟩:=h3 k hk
 refine ⟨u,b,off,?_,r⟩
 rcases q with q|q
 ·rw [q] at hk;exact absurd hk (Nat.not_lt_zero _)
 ·exact ZN3 r1 (.inl q)
theorem ZQp {l:Cx} (hl:∃ s∈l,s≠[]) {P:Nat->Prop} {w:World} {v:Value} (h:(dS CpxL l).rd P w v):LaidIn P w:=by
 obtain ⟨s,hs,hne⟩:=hl
 obtain ⟨u,_,_,h3⟩:=(h:CpxL P w v l)
 obtain ⟨a,cap,hv,h1,h2,h4⟩:=h3
 obtain ⟨k,hk,rfl⟩:=List.mem_iff_getElem.1 hs
 obtain ⟨u,b,off,r1,_⟩:=h4 k hk
 exact ZSn hne r1
section
variable {P:Program} {ops:Array Oper} {hp:List HObj} {fr:List Dat} {Q:ZAL} {rest:List Oper}
theorem Fr.gainC {I:Nat->Prop} {w:World} {a:Act} {t u:Nat} {l x:Cx} (hf:Fr I w a fr) (hs:x=[]\/∃ s∈l,s≠[]) (hu:fr[u]?=some (dS CpxL l)) (ht:fr[t]?=some (dS Cpx x)):Fr I w a (fr.set t (dS CpxL x)):=⟨hf.defers,by rw [hf.size,List.length_set],fun k d hd=>by
 rw [List.getElem?_set] at hd
 by_cases hk:t=k
 ·subst hk
  rw [if_pos rfl] at hd
  split at hd
  ·cases hd
   obtain ⟨v,h1,h2,h3⟩:=(hf.rd t _ ht:Cpx I w _ x)
   exact ⟨v,h1,h2,gain_S h3 (hs.imp id fun q=>ZQp q (hf.rd u _ hu))⟩
  ·cases hd
 ·rw [if_neg hk] at hd
  exact hf.rd k d hd⟩
theorem WL.gainC {l x:Cx} (t u:Nat) (hs:x=[]\/∃ s∈l,s≠[]) (hu:fr[u]?=some (dS CpxL l)) (ht:fr[t]?=some (dS Cpx x)) (h:WL P ops Q rest (fr.set t (dS CpxL x)) hp):WL P ops Q rest fr hp:=WL.of fun _ _ _ _ _ hh hf=>h.on hh (hf.gainC hs hu ht)
end
theorem ZFF (l:Cx) (h0:ZBH l=0) (hw:ZCn l=0):CallC Tryz.prog 7 [dS CpxL l] [] (fun d hp2=>∃ vC,d=dT [ZEC [dS Zc (ZDl (ZB1 (Zr l) l)),dS ZE (ZBE [] (ZB1 (Zr l) l).flatten),dX vC],dI 0]/\hp2=[ZW vC 28 ZE ((ZBE [] (ZB1 (Zr l) l).flatten).map (ZFD (Zr l)))]):=by
 have he:ZF4 l=0:=by rw [ZFb,if_neg (by omega)];exact hw
 have hG:=ZAH.1 h0
 have hg:=hG.2.2.1
 obtain ⟨hd,h5,hsum⟩:=ZEp hw
 have hF:=ZIq hg h5
 have hFl:(ZB1 (Zr l) l).length≤4096:=by rw [<- hF,ZES h5];exact hsum
 have hOf:ofP (ZF5 (ZBT l) l)=(ZDl (ZB1 (Zr l) l),0):=by
  rw [hF]
  unfold ofP
  rw [if_neg (by omega),if_neg (fun q=>q (ZGA fun f hf=>ZLD hg h5 hd hG.1 hf))]
 have hfl:=ZFd h5
 have:=ZSP l _ (ZFD (Zr l)) he hOf (fun v=>by
  unfold ZFD
  rw [List.getD_eq_getElem?_getD]
  cases h:(Zr l)[v.2.toNat]? with
  | none=>simp
  | some x =>
   obtain ⟨s,hs,_,hsub⟩:=ZBV.1 (ZA7.1 (List.mem_of_getElem? h))
   have:=hsub.length_le
   have:=h5 s hs
   simp only [Option.getD_some]
   omega) (fun s hs bl hbl i h=>by
  have hi:i<s.length:=by rw [ZBS] at h;exact h
  have hf:=ZDh hg h5 hs hbl hi
  have hsn:=((ZBv (h5 s hs) hbl).2 i hi).1
  obtain ⟨j,j1,j2,j3⟩:=ZBW _ 0 _ (ZA7.2 hf)
  rw [ZDo h hi]
  unfold ZPU
  rw [hsn,ZFh hg hf,j2,Nat.zero_add]
  refine ⟨⟨?_,?_⟩,?_⟩
  ·exact (ZKK (hg s hs) _ (List.getElem_mem hi)).1
  ·show ZML _
   unfold ZML
   have:=hG.1
   simp only
   omega
  ·unfold ZFD
   simp only [Int.toNat_natCast]
   rw [List.getD_eq_getElem?_getD,List.getElem?_eq_getElem j1,Option.getD_some,j3])
 rw [hF] at this
 exact this
theorem ZRq:∀ i,(itR [] i).1=[]
 | 0=>rfl
 | i+1=>by
  show (ZDR (Zr (itR [] i).1) (itR [] i).1).1=[]
  rw [ZRq i]
  rfl
theorem ZN9 {l:Cx} (h0:ZBH l=0) (i:Nat):(itR l i).1=[]\/∃ s∈l,s≠[]:=by
 match l,h0 with
 | [],_=>exact .inl (ZRq i)
 | s::l,h0=>exact .inr ⟨s,by simp,fun e=>(ZO.1 ((ZAH.1 h0).2.2.1 s (by simp))).1 (by rw [e];rfl)⟩
theorem ZOa {l:Cx} (h0:ZBH l=0):ofP l=(l,0):=by
 have hG:=ZAH.1 h0
 have:=hG.1
 unfold ofP
 rw [if_neg (by omega),if_neg (fun q=>q (ZGA hG.2.2.1)),ZQs hG]

set_option maxHeartbeats 16000000 in
theorem ZG4 (l:Cx) (k:Nat) (h0:ZBH l=0) (hk:k≤6) (hl:l.length≤100) (hI:∀ i,i<k->(∃ n,OkI n (itR l i))/\ZCn (itR l i).1=0) :
  Fn Tryz.prog 12 [dS CpxL l,dI (k:Int)] (dT [dS ZCb (itR l k),dI 0]):=by
 have c1:=ZCN l hl
 rw [show ZHH l=(ZCZ l,0) by unfold ZHH;rw [if_neg (by omega)]] at c1
 have hO:=ZLb l
 rw [ZOa h0] at hO
 have hgn:=ZN9 h0
 have hpl:(ZCZ l).length≤100000:=by
  have h1:=ZEW (ZAH.1 h0).short
  have h2:=ZB0 l.flatten []
  unfold ZCZ
  simp only [List.length_nil] at h2
  omega
 have hz:itR l 0=(l,ZCZ l,(ZCZ l).map fun v=>[v]):=rfl
 generalize hV:ZCZ l=V at *
 refine ZAB ZAd Tryz.func12 rfl rfl ?_
 simp only [Tryz.ntmps12,List.length_cons,List.length_nil,Nat.reduceAdd,Nat.reduceSub,List.replicate_succ,List.replicate_zero,List.cons_append,List.nil_append]
 (repeat' (first|((first|apply WL.opN|apply WD.opN);exact yF;dsimp only [ZB,z0,z1])|refine WL.nil ?_|refine ZA fun Kx hK=>?_|(refine hK _ _ ?_;clear hK)|refine WC.region ?_ |  (refine WL.alloc (dst:=some 4) ZCH (Zj rfl rfl rfl) fun b4=>?_;dsimp only [ZB,z0,z1]) |  (refine WL.alloc (dst:=some 8) tzC (Zy rfl) fun b8=>?_;dsimp only [ZB,z0,z1]) |  (refine ZN tyC rfl (OpD.t rfl) Zt ?_;dsimp only [ZB,z0,z1]) |  (refine ZAZ (dst:=some 10) (zs:=[.slice none 0 0,.slice none 0 0,.slice none 0 0]) ZCH (by decide) (by simp [Value.oneCell']) fun b10=>?_;dsimp only [ZB,z0,z1,List.map_cons,List.map_nil]) |  (refine ZAG ZAd (OpD.t rfl) (OpD.t rfl) rfl rfl ?_;dsimp only [ZB])|((first|apply ZJ|apply WD.op);(focus (first|exact wN|(apply ZF;(exact wY);((first|(exact SY.box (OpD.t rfl) (fun I w v h=>Zt I w v (ZAp I w v h)))|(apply SY.call c1 Tryz.call42;exact ArgsD.cons (OpD.tle rfl ZAp) ArgsD.nil)|(apply SY.call hO Tryz.call43;exact ArgsD.cons (OpD.tle rfl ZT2) ArgsD.nil)|(exact ZHM (OpD.t rfl) (OpD.t rfl))|((first|apply SY.move|apply SY.assign|apply SY.lss|apply SY.gtr|apply SY.neq) <;> (exact oD))|(apply SY.len;(exact oD);(exact nD);(exact uD))|(apply Zs ZCt;exact OpD.t rfl)|(apply ZAS;(exact oD);(with_reducible rfl);(exact oD))|(apply SY.extract;(exact oD);rfl)|fail);all_goals infer_instance))));dsimp only [ZB,z0,z1])|((first|refine Za rfl rfl rfl (fun h=>?_) (fun h=>?_)|refine ZZ rfl rfl rfl (fun h=>?_) (fun h=>?_)|refine ZT rfl rfl rfl (fun h=>?_) (fun h=>?_)|refine ZAE rfl rfl rfl (fun h=>?_) (fun h=>?_)|refine ZAD rfl rfl rfl (fun h=>?_) (fun h=>?_)|refine Zu rfl rfl rfl (fun h=>?_) (fun h=>?_)) <;> (first|(exfalso;first|omega|contradiction)|(dsimp only [z0,z1])))|(apply ZC;(exact oD);all_goals (intro h;try exact xD))|(apply ZL;(exact oD);all_goals (intro h;try exact xD))|refine WC.skip ?_|refine WC.block ?_))
 all_goals try (exfalso;first|contradiction|omega)
 refine ZAy 28 ZE ?_
 (refine WC.loopU (X:=Nat × Value) (fun x=>[(44,dI (x.1:Int)),(12,dA),(45,dA),(46,dA),(47,dA),(48,dA),(49,dA),(50,dA),(51,dA),(52,dA),(53,dA),(54,dA),(55,dA)]) (fun x=>(ZW x.2 28 ZE ((V.take x.1).map fun v=>[v])::Zp b10 30 [dS Zc l,dS ZE V,dX x.2]::[ZQ b4 30 3 true (dX (.agg #[.slice none 0 0,.slice none 0 0,.slice none 0 0]))])) (fun x=>V.length-x.1) (fun x=>x.1≤V.length) (0,.slice none 0 0) ?start ?frame0 ?objs0 ?round)
 case start=>exact Nat.zero_le _
 case frame0=>((try dsimp only [ZK,z0,z1]);repeat (first|exact LeF.nil|refine ZD (k:=?_)))
 case objs0=>rfl
 case round =>
  rintro ⟨q,vC⟩ q1
  simp only at q1
  dsimp only [ZK,z0,z1]
  have hol:((V.take q).map fun v=>[v]).length≤200002:=by rw [List.length_map,List.length_take];omega
  by_cases hq:q<V.length
  ·have htk:(V.take (q+1)).map (fun v=>[v])=(V.take q).map (fun v=>[v])++[[V[q]]]:=by rw [List.take_succ_eq_append_getElem hq,List.map_append];rfl
   ((repeat' (first|((first|apply WL.opN|apply WD.opN);exact yF;dsimp only [ZB,z0,z1])|refine WL.nil ?_|refine ZA fun Kx hK=>?_|(refine hK _ _ ?_;clear hK)|refine WC.region ?_ |  (refine ZAt (.head _) fun h1=>WL.perm (List.Perm.swap _ _ _) (Z1 (k:=2) ZCl (OpD.t rfl) (OpD.t rfl) (ZY h1) (by simp) (WL.perm (List.Perm.swap _ _ _) ?_));dsimp only [ZB,z0,z1])|((first|apply ZBJ|apply ZA6);(exact eD);exact OpD.t rfl;(exact oD);(intro _;exact hD);(exact (by simp));(exact (by simp));(first|exact ⟨by decide,by decide⟩|skip);decide;(exact lD);(intro _;dsimp only [ZB,z0,z1]);all_goals (try infer_instance))|(apply WL.alloc;(first|exact tzV|exact tzC);(first|exact ZY rfl|exact ZAF|exact Zy rfl);(intro _;dsimp only [ZB,z0,z1]))|(apply ZN;(exact tD);rfl;(exact oD);(exact hD);dsimp only [ZB,z0,z1])|((first|apply ZJ|apply WD.op);(focus (first|exact wN|(apply ZF;(exact wY);((first|(refine Ze ZAe (OpD.t rfl) (by decide))|(refine Zb ZCl (OpD.t rfl) (.tail _ (.head _)) rfl)|(refine ZDw (R:=RV) (_gR:=inferInstance) elV hq rfl (OpD.t rfl) (OpD.t rfl))|((first|apply SY.move|apply SY.assign|apply SY.lss|apply SY.gtr|apply SY.neq) <;> (exact oD))|((first|apply SY.add) <;> first|exact oD|omega)|(apply SY.buildE;(exact eD);((try simp only [List.map_cons,List.map_nil]);(repeat (first|exact Zq|(apply Zh;(first|exact OpD.t rfl|exact OpD.i|exact OpD.b|exact OpD.tle rfl (by first|exact ZI|exact ZH (by decide))|exact ⟨ZI⟩|exact ⟨ZH (by decide)⟩)))));rfl;rfl;decide;(intro _;exact ZAV);(exact (by simp)))|fail);all_goals infer_instance))));dsimp only [ZB,z0,z1])|(apply ZC;(exact oD);all_goals (intro h;try exact xD))|refine WC.skip ?_|refine WC.block ?_|refine ThenD.n ?_));all_goals (first|((repeat clear hK);(repeat clear Kx))))
   all_goals try (exfalso;first|contradiction|omega)
   (refine ⟨(q+1,_) , ?_,by first|omega|(simp only;omega),by ((try simp only);  (rw [htk])),?_⟩;rotate_left;((try dsimp only [ZK,z0,z1]);repeat (first|exact LeF.nil|refine ZD (k:=?_)));(try dsimp only))
   omega
  ·rw [List.take_of_length_le (by omega)]
   refine WC.perm (List.Perm.swap _ _ _) (ZDW (k:=2) rfl ?_)
   dsimp only [z0,z1]
   (repeat' (first|((first|apply WL.opN|apply WD.opN);exact yF;dsimp only [ZB,z0,z1])|refine WL.nil ?_|refine ZA fun Kx hK=>?_|(refine hK _ _ ?_;clear hK)|(refine Kont.skip ?_;clear hK)|refine WC.region ?_|((first|apply ZJ|apply WD.op);(focus (first|exact wN|(apply ZF;(exact wY);((first|((first|apply SY.move|apply SY.assign|apply SY.lss|apply SY.gtr|apply SY.neq) <;> (exact oD))|fail);all_goals infer_instance))));dsimp only [ZB,z0,z1])|(apply ZC;(exact oD);all_goals (intro h;try exact xD))|refine WC.exit ?_|refine WC.block ?_))
   all_goals try (exfalso;first|contradiction|omega)
   (refine WC.loopU (X:=Nat) (fun i=>[(57,dI (i:Int)),(5,dA),(13,dA),(14,dA),(15,dA),(16,dA),(58,dA),(59,dA),(60,dA),(61,dA),(62,dA),(63,dA),(64,dA),(65,dA),(66,dA),(67,dA),(68,dA),(69,dA),(70,dA),(71,dA),(72,dA),(73,dA),(74,dA),(75,dA),(76,dA),(77,dA),(78,dA),(79,dA),(80,dA),(81,dA),(82,dA),(83,dA),(84,dA),(85,dA),(86,dA)]) (fun i=>(Zp b10 30 [dS Zc (itR l i).1,dS ZE (itR l i).2.1,dS Zc (itR l i).2.2]::[ZQ b4 30 3 true (dX (.agg #[.slice none 0 0,.slice none 0 0,.slice none 0 0]))])) (fun i=>k-i) (fun i=>i≤k) 0 ?start ?frame0 ?objs0 ?round)
   case start=>exact Nat.zero_le _
   case frame0=>((try dsimp only [ZK,z0,z1]);repeat (first|exact LeF.nil|refine ZD (k:=?_)))
   case objs0=>rw [hz]
   case round =>
    rintro i i1
    dsimp only [ZK,z0,z1]
    by_cases hi:i<k
    ·obtain ⟨⟨n1,o1⟩,o2⟩:=hI i hi
     have hnx:itR l (i+1)=ZHy (itR l i):=rfl
     rw [ZLZ o1] at hnx
     have hlen:=o1.len
     have hcl:∀ c∈(itR l i).2.2,c.length≤8:=fun c hc=>by have:=(o1.cars c hc).2;omega
     have cW:=ZFF (itR l i).1 (ZAH.2 o1.good) o2
     have h5:∀ s∈(itR l i).1,s.length≤5:=fun s hs=>by have:=o1.three s hs;omega
     have hgi:=hgn i
     have hfc:∀ s∈(ZBE [] (ZB1 (Zr (itR l i).1) (itR l i).1).flatten).map (ZFD (Zr (itR l i).1)),s∈ZDx (itR l i).1/\s.length≤10:=fun s hs=>by
      obtain ⟨u,hu,rfl⟩:=List.mem_map.1 hs
      have h6:=ZK3 o1.good.2.2.1 h5 (u:=u) (by
       rcases ZBm.1 hu with q|q
       ·cases q
       ·exact q)
      refine ⟨h6,?_⟩
      obtain ⟨f,hf,_,hsub⟩:=ZBV.1 h6
      have:=hsub.length_le
      have:=h5 f hf
      omega
     have hC:(ZBE [] (ZB1 (Zr (itR l i).1) (itR l i).1).flatten).length≤100000:=by
      have h6:=ZHi o1.good.2.2.1 h5
      have h7:(ZB1 (Zr (itR l i).1) (itR l i).1).length≤4096:=by rw [h6];exact (ZEp o2).2.2
      have h8:=ZHl (n:=5) (l:=ZB1 (Zr (itR l i).1) (itR l i).1) fun f hf=>by
       obtain ⟨s,hs,e,_⟩:=ZEV o1.good.2.2.1 h5 hf
       have:=h5 s hs
       omega
      have h9:=ZB0 (ZB1 (Zr (itR l i).1) (itR l i).1).flatten []
      simp only [List.length_nil] at h9
      omega
     rw [show (ZBE [] (ZB1 (Zr (itR l i).1) (itR l i).1).flatten).map (fun u=>unR (itR l i).2.1 (itR l i).2.2 (ZFD (Zr (itR l i).1) u))=((ZBE [] (ZB1 (Zr (itR l i).1) (itR l i).1).flatten).map (ZFD (Zr (itR l i).1))).map (unR (itR l i).2.1 (itR l i).2.2) by rw [List.map_map];rfl] at hnx
     have hue:=fun s (hs:s∈ZDx (itR l i).1)=>un_eq o1 hs
     rw [<- List.length_map (ZFD (Zr (itR l i).1))] at hC
     generalize (ZBE [] (ZB1 (Zr (itR l i).1) (itR l i).1).flatten).map (ZFD (Zr (itR l i).1))=C' at *
     generalize ZBE [] (ZB1 (Zr (itR l i).1) (itR l i).1).flatten=V' at *
     generalize ZDl (ZB1 (Zr (itR l i).1) (itR l i).1)=F' at *
     generalize itR l i=d at *
     obtain ⟨F,V1,C⟩:=d
     simp only at *
     (repeat' (first|((first|apply WL.opN|apply WD.opN);exact yF;dsimp only [ZB,z0,z1])|refine WL.nil ?_|refine ZA fun Kx hK=>?_|(refine hK _ _ ?_;clear hK)|refine WC.region ?_ |  (refine WL.gainC 61 0 hgi rfl rfl ?_;dsimp only [z0,z1];refine Z8 (hp1:=[]) (caps:=[]) cW Tryz.call7 OpD.f (ArgsD.cons (OpD.t rfl) ArgsD.nil) ?_;rintro d' hp2 ⟨vD,rfl,rfl⟩;dsimp only [ZB,z0,z1,List.cons_append,List.nil_append]) |  (refine ZAZ (dst:=some 13) (zs:=[.slice none 0 0,.slice none 0 0,.slice none 0 0]) ZCH (by decide) (by simp [Value.oneCell']) fun b13=>?_;dsimp only [ZB,z0,z1,List.map_cons,List.map_nil]) |  (refine ZAG ZAd (OpD.t rfl) (OpD.t rfl) rfl rfl (WL.perm (List.Perm.swap _ _ _) ?_);dsimp only [ZB])|((first|apply ZJ|apply WD.op);(focus (first|exact wN|(apply ZF;(exact wY);((first|(refine Ze ZAe (OpD.t rfl) (by decide))|(refine ZEH tyC (OpD.t rfl) (.head _) rfl)|(refine Zb ZCl (OpD.t rfl) (.tail _ (.head _)) rfl)|(exact ZHL (OpD.t rfl) (.head _) ZBx.unt)|((first|apply SY.move|apply SY.assign|apply SY.lss|apply SY.gtr|apply SY.neq) <;> (exact oD))|(apply SY.extract;(exact oD);rfl)|fail);all_goals infer_instance))));dsimp only [ZB,z0,z1])|(apply ZC;(exact oD);all_goals (intro h;try exact xD))|(apply ZL;(exact oD);all_goals (intro h;try exact xD))|refine WC.skip ?_|refine WC.block ?_))
     all_goals try (exfalso;first|contradiction|omega)
     (refine WC.loopU (X:=Nat) (fun j=>[(72,dI (j:Int)),(15,dA),(16,dA),(73,dA),(74,dA),(75,dA),(76,dA),(77,dA),(78,dA),(79,dA),(80,dA),(81,dA),(82,dA),(83,dA),(84,dA)]) (fun j=>(ZW vD 28 ZE (ZG9 V1 C C' j)::Zp b13 30 [dS Zc F',dS ZE V',dX vD]::Zp b10 30 [dS Zc F,dS ZE V1,dS Zc C]::[ZQ b4 30 3 true (dX (.agg #[.slice none 0 0,.slice none 0 0,.slice none 0 0]))])) (fun j=>C'.length-j) (fun j=>j≤C'.length) 0 ?start ?frame0 ?objs0 ?round)
     case start=>exact Nat.zero_le _
     case frame0=>((try dsimp only [ZK,z0,z1]);repeat (first|exact LeF.nil|refine ZD (k:=?_)))
     case objs0=>rfl
     case round =>
      rintro j j1
      dsimp only [ZK,z0,z1]
      have hml:=ZLV (V:=V1) (C:=C) j1
      by_cases hj:j<C'.length
      ·have hjm:j<(ZG9 V1 C C' j).length:=by omega
       have hat:=ZOT hj hjm
       have hset:=ZLW (V:=V1) (C:=C) hj
       obtain ⟨hf1,hf2⟩:=hfc _ (List.getElem_mem hj)
       have cU:=ZPJ F V1 C C'[j] hlen hcl hf2
       rw [hue _ hf1] at cU
       generalize hm1:ZG9 V1 C C' (j+1)=m1 at *
       generalize ZG9 V1 C C' j=m0 at *
       ((repeat' (first |  (apply WC.drawTail 7;kernel_rfl;kernel_rfl;simp only [List.take_succ_cons,List.take_zero,List.drop_succ_cons,List.drop_zero])|((first|apply WL.opN|apply WD.opN);exact yF;dsimp only [ZB,z0,z1])|refine WL.nil ?_|refine WD.nil ?_|refine ZA fun Kx hK=>?_|(refine hK _ _ ?_;clear hK)|refine WC.region ?_ |  (refine ZEN (R:=ZE) (k:=j) ZCM (OpD.t rfl) (OpD.t rfl) ZAb hjm ?_;rw [hset];dsimp only [ZB,z0,z1])|((first|apply ZJ|apply WD.op);(focus (first|exact wN|(apply ZF;(exact wY);((first|(refine Ze ZAe (OpD.t rfl) (by decide))|(refine Zb ZCl (OpD.t rfl) (.tail _ (.head _)) rfl)|(refine ZAr ZAd (OpD.t rfl) (.tail _ (.tail _ (.head _))) (by decide) rfl)|(refine ZGq (R:=ZE) (_gR:=inferInstance) ZBx (OpD.t rfl) (.head _) (OpD.t rfl) rfl hjm)|(refine ZC9 (R:=ZE) (_gR:=inferInstance) ZCM (OpD.t rfl) (.head _) hjm hat)|(apply SY.call cU Tryz.call44;exact ArgsD.cons (OpD.tle rfl ZFy) (ArgsD.cons (OpD.t rfl) ArgsD.nil))|((first|apply SY.move|apply SY.assign|apply SY.lss|apply SY.gtr|apply SY.neq) <;> (exact oD))|((first|apply SY.add) <;> first|exact oD|omega)|fail);all_goals infer_instance))));dsimp only [ZB,z0,z1])|(apply ZC;(exact oD);all_goals (intro h;try exact xD))|refine WC.skip ?_|refine WC.block ?_|refine ThenD.n ?_));all_goals (first|((repeat clear hK);(repeat clear Kx))))
       all_goals try (exfalso;first|contradiction|omega)
       (refine ⟨j+1 , ?_,by first|omega|(simp only;omega),by ((try simp only);  rw [hm1]),?_⟩;rotate_left;((try dsimp only [ZK,z0,z1]);repeat (first|exact LeF.nil|refine ZD (k:=?_)));(try dsimp only))
       omega
      ·rw [ZLU (show C'.length≤j by omega)]
       refine WC.perm (List.Perm.swap _ _ _) (ZDW (k:=2) rfl ?_)
       dsimp only [z0,z1]
       ((repeat' (first|((first|apply WL.opN|apply WD.opN);exact yF;dsimp only [ZB,z0,z1])|refine WL.nil ?_|refine ZA fun Kx hK=>?_|(refine hK _ _ ?_;clear hK)|(refine Kont.skip ?_;clear hK)|refine WC.region ?_ |  (refine WL.perm (List.Perm.swap _ _ _) (ZAG ZAd (OpD.t rfl) (OpD.t rfl) rfl rfl (WL.perm (List.Perm.swap _ _ _) (WL.drop ?_)));dsimp only [ZB])|((first|apply ZJ|apply WD.op);(focus (first|exact wN|(apply ZF;(exact wY);((first|(refine ZAr ZAd (OpD.t rfl) (.head _) (by decide) rfl)|((first|apply SY.move|apply SY.assign|apply SY.lss|apply SY.gtr|apply SY.neq) <;> (exact oD))|((first|apply SY.add) <;> first|exact oD|omega)|fail);all_goals infer_instance))));dsimp only [ZB,z0,z1])|(apply ZC;(exact oD);all_goals (intro h;try exact xD))|refine WC.exit ?_|refine ThenD.n ?_));all_goals (first|((repeat clear hK);(repeat clear Kx))))
       all_goals try (exfalso;first|contradiction|omega)
       (refine ⟨i+1 , ?_,by first|omega|(simp only;omega),by ((try simp only);  rw [hnx]),?_⟩;rotate_left;((try dsimp only [ZK,z0,z1]);repeat (first|exact LeF.nil|refine ZD (k:=?_)));(try dsimp only))
       omega
    ·have hie:i=k:=by omega
     subst hie
     ((repeat' (first|((first|apply WL.opN|apply WD.opN);exact yF;dsimp only [ZB,z0,z1])|refine WL.nil ?_|refine ZA fun Kx hK=>?_|(refine hK _ _ ?_;clear hK)|(refine Kont.skip ?_;clear hK)|refine WC.region ?_ |  (refine ZCd (d:=dS ZCb (itR l i)) ZAd rfl (OpD.tle rfl ZFy) Zn ?_;dsimp only [ZB,z0,z1])|((first|apply ZJ|apply WD.op);(focus (first|exact wN|(apply ZF;(exact wY);((first|(refine ZAr ZAd (OpD.t rfl) (.head _) (by decide) rfl)|((first|apply SY.move|apply SY.assign|apply SY.lss|apply SY.gtr|apply SY.neq) <;> (exact oD))|fail);all_goals infer_instance))));dsimp only [ZB,z0,z1])|(apply ZC;(exact oD);all_goals (intro h;try exact xD))|refine WC.ret ?_|refine WC.exit ?_));all_goals (first|((repeat clear hK);(repeat clear Kx))))
     all_goals try (exfalso;first|contradiction|omega)
     (refine ⟨trivial,⟨_,rfl,?_⟩,_,rfl,?_⟩ <;> exact fD)
end
section
open Go.RowKit

set_option maxHeartbeats 16000000 in
theorem ZOD (l:Cx) (k:Nat) (h0:ZBH l=0) (hk:k≤6) (hk1:1≤k) (hl:l.length≤100) (he:ZCn l≠0) :
  Fn Tryz.prog 12 [dS CpxL l,dI (k:Int)] (dT [dS ZCb ([],[],[]),dI (ZCn l)]):=by
 have cE:ZF4 l=ZCn l:=by rw [ZFb,if_neg (by omega)]
 have cW:=ZHb l (by rw [cE];exact he)
 rw [cE] at cW
 generalize hE:ZCn l=E at *
 clear cE
 have c1:=ZCN l hl
 rw [show ZHH l=(ZCZ l,0) by unfold ZHH;rw [if_neg (by omega)]] at c1
 have hO:=ZLb l
 rw [ZOa h0] at hO
 have hgi:=ZN9 h0 0
 have hpl:(ZCZ l).length≤100000:=by
  have h1:=ZEW (ZAH.1 h0).short
  have h2:=ZB0 l.flatten []
  unfold ZCZ
  simp only [List.length_nil] at h2
  omega
 generalize hV:ZCZ l=V at *
 refine ZAB ZAd Tryz.func12 rfl rfl ?_
 simp only [Tryz.ntmps12,List.length_cons,List.length_nil,Nat.reduceAdd,Nat.reduceSub,List.replicate_succ,List.replicate_zero,List.cons_append,List.nil_append]
 (repeat' (first|((first|apply WL.opN|apply WD.opN);exact yF;dsimp only [ZB,z0,z1])|refine WL.nil ?_|refine ZA fun Kx hK=>?_|(refine hK _ _ ?_;clear hK)|refine WC.region ?_ |  (refine WL.alloc (dst:=some 4) ZCH (Zj rfl rfl rfl) fun b4=>?_;dsimp only [ZB,z0,z1]) |  (refine WL.alloc (dst:=some 8) tzC (Zy rfl) fun b8=>?_;dsimp only [ZB,z0,z1]) |  (refine ZN tyC rfl (OpD.t rfl) Zt ?_;dsimp only [ZB,z0,z1]) |  (refine ZAZ (dst:=some 10) (zs:=[.slice none 0 0,.slice none 0 0,.slice none 0 0]) ZCH (by decide) (by simp [Value.oneCell']) fun b10=>?_;dsimp only [ZB,z0,z1,List.map_cons,List.map_nil]) |  (refine ZAG ZAd (OpD.t rfl) (OpD.t rfl) rfl rfl ?_;dsimp only [ZB])|((first|apply ZJ|apply WD.op);(focus (first|exact wN|(apply ZF;(exact wY);((first|(exact SY.box (OpD.t rfl) (fun I w v h=>Zt I w v (ZAp I w v h)))|(apply SY.call c1 Tryz.call42;exact ArgsD.cons (OpD.tle rfl ZAp) ArgsD.nil)|(apply SY.call hO Tryz.call43;exact ArgsD.cons (OpD.tle rfl ZT2) ArgsD.nil)|(exact ZHM (OpD.t rfl) (OpD.t rfl))|((first|apply SY.move|apply SY.assign|apply SY.lss|apply SY.gtr|apply SY.neq) <;> (exact oD))|(apply SY.len;(exact oD);(exact nD);(exact uD))|(apply Zs ZCt;exact OpD.t rfl)|(apply ZAS;(exact oD);(with_reducible rfl);(exact oD))|(apply SY.extract;(exact oD);rfl)|fail);all_goals infer_instance))));dsimp only [ZB,z0,z1])|((first|refine Za rfl rfl rfl (fun h=>?_) (fun h=>?_)|refine ZZ rfl rfl rfl (fun h=>?_) (fun h=>?_)|refine ZT rfl rfl rfl (fun h=>?_) (fun h=>?_)|refine ZAE rfl rfl rfl (fun h=>?_) (fun h=>?_)|refine ZAD rfl rfl rfl (fun h=>?_) (fun h=>?_)|refine Zu rfl rfl rfl (fun h=>?_) (fun h=>?_)) <;> (first|(exfalso;first|omega|contradiction)|(dsimp only [z0,z1])))|(apply ZC;(exact oD);all_goals (intro h;try exact xD))|(apply ZL;(exact oD);all_goals (intro h;try exact xD))|refine WC.skip ?_|refine WC.block ?_))
 all_goals try (exfalso;first|contradiction|omega)
 refine ZAy 28 ZE ?_
 (refine WC.loopU (X:=Nat × Value) (fun x=>[(44,dI (x.1:Int)),(12,dA),(45,dA),(46,dA),(47,dA),(48,dA),(49,dA),(50,dA),(51,dA),(52,dA),(53,dA),(54,dA),(55,dA)]) (fun x=>(ZW x.2 28 ZE ((V.take x.1).map fun v=>[v])::Zp b10 30 [dS Zc l,dS ZE V,dX x.2]::[ZQ b4 30 3 true (dX (.agg #[.slice none 0 0,.slice none 0 0,.slice none 0 0]))])) (fun x=>V.length-x.1) (fun x=>x.1≤V.length) (0,.slice none 0 0) ?start ?frame0 ?objs0 ?round)
 case start=>exact Nat.zero_le _
 case frame0=>((try dsimp only [ZK,z0,z1]);repeat (first|exact LeF.nil|refine ZD (k:=?_)))
 case objs0=>rfl
 case round =>
  rintro ⟨q,vC⟩ q1
  simp only at q1
  dsimp only [ZK,z0,z1]
  have hol:((V.take q).map fun v=>[v]).length≤200002:=by rw [List.length_map,List.length_take];omega
  by_cases hq:q<V.length
  ·have htk:(V.take (q+1)).map (fun v=>[v])=(V.take q).map (fun v=>[v])++[[V[q]]]:=by rw [List.take_succ_eq_append_getElem hq,List.map_append];rfl
   ((repeat' (first|((first|apply WL.opN|apply WD.opN);exact yF;dsimp only [ZB,z0,z1])|refine WL.nil ?_|refine ZA fun Kx hK=>?_|(refine hK _ _ ?_;clear hK)|refine WC.region ?_ |  (refine ZAt (.head _) fun h1=>WL.perm (List.Perm.swap _ _ _) (Z1 (k:=2) ZCl (OpD.t rfl) (OpD.t rfl) (ZY h1) (by simp) (WL.perm (List.Perm.swap _ _ _) ?_));dsimp only [ZB,z0,z1])|((first|apply ZBJ|apply ZA6);(exact eD);exact OpD.t rfl;(exact oD);(intro _;exact hD);(exact (by simp));(exact (by simp));(first|exact ⟨by decide,by decide⟩|skip);decide;(exact lD);(intro _;dsimp only [ZB,z0,z1]);all_goals (try infer_instance))|(apply WL.alloc;(first|exact tzV|exact tzC);(first|exact ZY rfl|exact ZAF|exact Zy rfl);(intro _;dsimp only [ZB,z0,z1]))|(apply ZN;(exact tD);rfl;(exact oD);(exact hD);dsimp only [ZB,z0,z1])|((first|apply ZJ|apply WD.op);(focus (first|exact wN|(apply ZF;(exact wY);((first|(refine Ze ZAe (OpD.t rfl) (by decide))|(refine Zb ZCl (OpD.t rfl) (.tail _ (.head _)) rfl)|(refine ZDw (R:=RV) (_gR:=inferInstance) elV hq rfl (OpD.t rfl) (OpD.t rfl))|((first|apply SY.move|apply SY.assign|apply SY.lss|apply SY.gtr|apply SY.neq) <;> (exact oD))|((first|apply SY.add) <;> first|exact oD|omega)|(apply SY.buildE;(exact eD);((try simp only [List.map_cons,List.map_nil]);(repeat (first|exact Zq|(apply Zh;(first|exact OpD.t rfl|exact OpD.i|exact OpD.b|exact OpD.tle rfl (by first|exact ZI|exact ZH (by decide))|exact ⟨ZI⟩|exact ⟨ZH (by decide)⟩)))));rfl;rfl;decide;(intro _;exact ZAV);(exact (by simp)))|fail);all_goals infer_instance))));dsimp only [ZB,z0,z1])|(apply ZC;(exact oD);all_goals (intro h;try exact xD))|refine WC.skip ?_|refine WC.block ?_|refine ThenD.n ?_));all_goals (first|((repeat clear hK);(repeat clear Kx))))
   all_goals try (exfalso;first|contradiction|omega)
   (refine ⟨(q+1,_) , ?_,by first|omega|(simp only;omega),by ((try simp only);  (rw [htk])),?_⟩;rotate_left;((try dsimp only [ZK,z0,z1]);repeat (first|exact LeF.nil|refine ZD (k:=?_)));(try dsimp only))
   omega
  ·rw [List.take_of_length_le (by omega)]
   refine WC.perm (List.Perm.swap _ _ _) (ZDW (k:=2) rfl ?_)
   dsimp only [z0,z1]
   (repeat' (first|((first|apply WL.opN|apply WD.opN);exact yF;dsimp only [ZB,z0,z1])|refine WL.nil ?_|refine ZA fun Kx hK=>?_|(refine hK _ _ ?_;clear hK)|(refine Kont.skip ?_;clear hK)|refine WC.region ?_|((first|apply ZJ|apply WD.op);(focus (first|exact wN|(apply ZF;(exact wY);((first|((first|apply SY.move|apply SY.assign|apply SY.lss|apply SY.gtr|apply SY.neq) <;> (exact oD))|fail);all_goals infer_instance))));dsimp only [ZB,z0,z1])|(apply ZC;(exact oD);all_goals (intro h;try exact xD))|refine WC.exit ?_|refine WC.block ?_))
   all_goals try (exfalso;first|contradiction|omega)
   (refine WC.loopU (X:=Nat) (fun i=>[(57,dI (i:Int)),(5,dA),(13,dA),(14,dA),(15,dA),(16,dA),(58,dA),(59,dA),(60,dA),(61,dA),(62,dA),(63,dA),(64,dA),(65,dA),(66,dA),(67,dA),(68,dA),(69,dA),(70,dA),(71,dA),(72,dA),(73,dA),(74,dA),(75,dA),(76,dA),(77,dA),(78,dA),(79,dA),(80,dA),(81,dA),(82,dA),(83,dA),(84,dA),(85,dA),(86,dA)]) (fun i=>(Zp b10 30 [dS Zc l,dS ZE V,dS Zc (V.map fun v=>[v])]::[ZQ b4 30 3 true (dX (.agg #[.slice none 0 0,.slice none 0 0,.slice none 0 0]))])) (fun i=>k-i) (fun i=>i=0) 0 ?start ?frame0 ?objs0 ?round)
   case start=>rfl
   case frame0=>((try dsimp only [ZK,z0,z1]);repeat (first|exact LeF.nil|refine ZD (k:=?_)))
   case objs0=>rfl
   case round =>
    rintro i i1
    subst i1
    dsimp only [ZK,z0,z1]
    ((repeat' (first|((first|apply WL.opN|apply WD.opN);exact yF;dsimp only [ZB,z0,z1])|refine WL.nil ?_|refine ZA fun Kx hK=>?_|(refine hK _ _ ?_;clear hK)|refine WC.region ?_ |  (refine WL.gainC 61 0 hgi rfl rfl ?_;dsimp only [z0,z1];refine WL.op rfl (SY.call cW Tryz.call7 (ArgsD.cons (OpD.t rfl) ArgsD.nil)) ?_;dsimp only [ZB,z0,z1]) |  (refine ZAZ (dst:=some 13) (zs:=[.slice none 0 0,.slice none 0 0,.slice none 0 0]) ZCH (by decide) (by simp [Value.oneCell']) fun b13=>?_;dsimp only [ZB,z0,z1,List.map_cons,List.map_nil]) |  (refine ZAG ZAd (OpD.t rfl) (OpD.tle rfl ZC7) rfl rfl (WL.drop ?_);dsimp only [ZB]) |  (refine WL.perm (List.Perm.swap _ _ _) (ZN ZAd rfl (OpD.t rfl) Zn ?_);dsimp only [ZB,z0,z1])|((first|apply ZJ|apply WD.op);(focus (first|exact wN|(apply ZF;(exact wY);((first|(refine Ze ZAe (OpD.t rfl) (by decide))|(refine ZEH tyC (OpD.t rfl) (.head _) rfl)|(exact ZA9)|((first|apply SY.move|apply SY.assign|apply SY.lss|apply SY.gtr|apply SY.neq) <;> (exact oD))|(apply SY.extract;(exact oD);rfl)|fail);all_goals infer_instance))));dsimp only [ZB,z0,z1])|(apply ZC;(exact oD);all_goals (intro h;try exact xD))|(apply ZL;(exact oD);all_goals (intro h;try exact xD))|refine WC.skip ?_|refine WC.ret ?_|refine WC.block ?_|refine ThenD.r ?_|refine InBlockD.r ?_));all_goals (first|((repeat clear hK);(repeat clear Kx))))
    all_goals first|(refine ⟨trivial,⟨_,rfl,?_⟩,_,rfl,?_⟩ <;> exact fD)|(exfalso;first|contradiction|omega)
end
section
open Go.RowKit
theorem ZTa {l:Cx}:∀ s∈l,(s.length:Int)-1≤ZJ9 l:=by
 have go:∀ (l:Cx) (m:Int),m≤l.foldl (fun m s=>if m<(s.length:Int)-1 then (s.length:Int)-1 else m) m/\∀ s∈l,(s.length:Int)-1≤l.foldl (fun m s=>if m<(s.length:Int)-1 then (s.length:Int)-1 else m) m:=by
  intro l
  induction l with
  | nil=>intro m;exact ⟨Int.le_refl _,fun s hs=>by cases hs⟩
  | cons x l ih =>
   intro m
   rw [List.foldl_cons]
   have h1:=ih (if m<(x.length:Int)-1 then (x.length:Int)-1 else m)
   have h2:m≤(if m<(x.length:Int)-1 then (x.length:Int)-1 else m)/\(x.length:Int)-1≤(if m<(x.length:Int)-1 then (x.length:Int)-1 else m):=by
    split <;> omega
   refine ⟨Int.le_trans h2.1 h1.1,fun s hs=>?_⟩
   rcases List.mem_cons.1 hs with rfl|hs
   ·exact Int.le_trans h2.2 h1.1
   ·exact h1.2 s hs
 exact (go l (-1)).2
theorem ZKH {l:Cx} (h:ZJ9 l≤2):∀ s∈l,s.length≤3:=fun s hs=>by
 have:=ZTa s hs
 omega
theorem ZOb {n:Nat} {d:Sub} (hd:OkI n d):d.2.1.length≤3*n:=by
 rw [hd.pts]
 have h1:=ZHl (n:=3) hd.three
 have h2:=ZB0 d.1.flatten []
 have h3:=hd.few
 unfold ZCZ
 simp only [List.length_nil] at h2
 omega
theorem ZSx {n:Nat} {d:Sub} (hd:OkI n d):(ZDR (Zr d.1) d.1).2.length≤39*n:=by
 have h5:∀ s∈d.1,s.length≤5:=fun s hs=>by have:=hd.three s hs;omega
 rw [ZPO hd.good.2.2.1 h5 hd.good]
 have h1:=ZHi hd.good.2.2.1 h5
 have h2:=ZLt hd.three
 have h3:=ZHl (n:=3) (l:=ZB1 (Zr d.1) d.1) fun f hf=>by
  obtain ⟨s,hs,e,_⟩:=ZEV hd.good.2.2.1 h5 hf
  have:=hd.three s hs
  omega
 have h4:=ZB0 (ZB1 (Zr d.1) d.1).flatten []
 have h6:=hd.few
 simp only [List.length_nil] at h4
 show ((ZBE [] (ZB1 (Zr d.1) d.1).flatten).map _).length≤_
 rw [List.length_map]
 omega
theorem ZOG (l:Cx) (k:Int) (hl:l.length≤4) (h3:∀ s∈l,s.length≤3) (hk:¬ (2<k/\k≤6)) (h2:k=2->l.length≤1) :
  ∃ r:Sub × Int,Fn Tryz.prog 12 [dS CpxL l,dI k] (dT [dS ZCb r.1,dI r.2])/\Fn Tryz.prog 13 [dS Cpx l,dI k] (dT [dS ZCb r.1,dI r.2]) /\
   (ZBH l=0->(k=0->r=(itR l 0,0))/\(1≤k->k≤6->ZCn l≠0->r=(([],[],[]),ZCn l))/\(1≤k->k≤2->ZCn l=0->r=(itR l k.toNat,0))):=by
 by_cases h0:ZBH l=0
 ·by_cases hr:k<0\/6<k
  ·exact ⟨(([],[],[]),2),ZOF l k (by omega) (by unfold ZHH;rw [if_neg (by omega)]) hr,ZOE l k h0 hr,fun _=>⟨fun q=>by omega,fun q=>by omega,fun q=>by omega⟩⟩
  ·obtain ⟨n,rfl⟩:=Int.eq_ofNat_of_zero_le (show 0≤k by omega)
   have o0:OkI 4 (itR l 0):=ZLd h0 h3 hl
   have hp:=ZOb o0
   have hp':(ZCZ l).length≤60:=Nat.le_trans hp (by omega)
   by_cases hw:ZCn l=0
   ·have hI:∀ i,i<n->∃ m,m≤13/\OkI m (itR l i)/\ZCn (itR l i).1=0:=fun i hi=>by
     have:i=0\/(i=1/\n=2):=by omega
     rcases this with rfl|⟨rfl,rfl⟩
     ·exact ⟨4,by omega,o0,hw⟩
     ·obtain ⟨t,_,_,_,⟨o1,o2,_⟩,_⟩:=ZSl h0 h3 (h2 rfl) hw
      exact ⟨13,by omega,o1,ZRQ o1 (by omega) o2⟩
    refine ⟨(itR l n,0),ZG4 l n h0 (by omega) (by omega) fun i hi=>?_,ZGM l n h0 (by omega) (by omega) hp' fun i hi=>?_,fun _=>⟨fun q=>?_,fun _ _ q=>absurd hw q,fun _ _ _=>by simp⟩⟩
    ·obtain ⟨m,_,o1,o2⟩:=hI i hi
     exact ⟨⟨m,o1⟩,o2⟩
    ·obtain ⟨m,hm,o1,o2⟩:=hI i hi
     have:=ZOb o1
     have:=ZSx o1
     exact ⟨⟨m,o1⟩,o2,by omega,by omega⟩
    ·have:n=0:=by omega
     rw [this]
   ·by_cases hn:n=0
    ·subst hn
     exact ⟨(itR l 0,0),ZG4 l 0 h0 (by omega) (by omega) fun i hi=>absurd hi (Nat.not_lt_zero _),ZGM l 0 h0 (by omega) (by omega) hp' fun i hi=>absurd hi (Nat.not_lt_zero _),fun _=>⟨fun _=>rfl,fun q=>by omega,fun q=>by omega⟩⟩
    ·exact ⟨(([],[],[]),ZCn l),ZOD l n h0 (by omega) (by omega) (by omega) hw,ZOC l n h0 (by omega) (by omega) (by omega) hp' hw,fun _=>⟨fun q=>by omega,fun _ _ _=>rfl,fun _ _ q=>absurd q hw⟩⟩
 ·refine ⟨(([],[],[]),ZBH l),?_,ZOA l k h0,fun q=>absurd q h0⟩
  have hv:ZHH l=([],ZBH l):=by unfold ZHH;rw [if_pos h0]
  have:=ZOB l k (by omega) (by rw [hv];exact h0)
  rw [hv] at this
  exact this
end
end Go.Proofs.YtlgmojhmmbhgfaaGreatDoor
