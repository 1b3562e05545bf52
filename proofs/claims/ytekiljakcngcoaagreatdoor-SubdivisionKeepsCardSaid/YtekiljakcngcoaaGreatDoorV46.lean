/- Part 46: walks by contracts, and plain laws. -/
import Derived.Test.YtekiljakcngcoaaGreatDoorV45
set_option linter.unusedVariables false
set_option linter.unusedSimpArgs false
set_option linter.unusedSectionVars false
set_option maxRecDepth 100000
set_option maxHeartbeats 4000000
namespace Go.Proofs.YtekiljakcngcoaaGreatDoor
section
open S50 (Pv mkQ ZFF Sd psi atG ZAk Tc Tb eic eib)
def tgC (F:List Vx) (i:Nat):Int:=(F.getD i (0,0)).1
def tgB (_:List Vx) (i:Nat):Int:=(i:Int)
def ZUc (fs:Cx) (n:Int):List Vx:=fs.getD n.toNat []
theorem ZPF:∀ n:Fin 4,S50.ordQ 6 (2 ^ n.val-1)=ZCD (2 ^ n.val-1):=by decide +kernel
theorem ZPG:∀ n:Fin 4,1≤n.val->((S50.ordQ 6 (2 ^ n.val-1)).filter fun bl=>decide (bl.length=n.val))=ZGb (2 ^ n.val-1):=by decide +kernel
theorem ZMP:∀ (bl:List Nat) (i m:Nat),S50.snapQ bl i m=ZCA bl i m
 | [],_,_=>rfl
 | b::l,i,m=>by
  show (if (b >>> i) &&& 1=1 then m ||| b else S50.snapQ l i (m ||| b))=if (b >>> i) &&& 1=1 then m ||| b else ZCA l i (m ||| b)
  rw [ZMP l]
theorem ZUM {l:Cx} (hl:GoodX l) {F:List Vx}:F∈upC l 8↔F∈ZAL l:=by rw [ZKB hl.short,ZAs,ZBH]
theorem ZLa {l:Cx} (hl:GoodX l) {F:List Vx} (h:F∈upC l 8):ZUc (ZAL l) (ZAN 0 (ZAL l) F)=F:=ZER ((ZUM hl).1 h) 0
theorem ZSg {l:Cx} (hl:GoodX l) (F:List Vx) (h:F∈upC l 8) (G:List Vx) (h':G∈upC l 8) (e:ZAN 0 (ZAL l) F=ZAN 0 (ZAL l) G):F=G:=by rw [<- ZLa hl h,e,ZLa hl h']
theorem ZHf {F X:Cx} (hm:∀ f,f∈X↔f∈F):ZCH [] F.flatten=ZC6 X:=by
 refine ZCq (ZCp (by simp [Asc])) (ZFx _) fun x=>?_
 rw [ZCM,ZDi,List.mem_flatten]
 constructor
 ·rintro (q|⟨f,hf,hx⟩)
  ·cases q
  ·exact ⟨f,(hm f).2 hf,hx⟩
 ·rintro ⟨f,hf,hx⟩
  exact .inr ⟨f,(hm f).1 hf,hx⟩
section
variable {l:Cx} (hl:GoodX l) (h3:∀ s∈l,s.length≤3)
include hl h3
theorem sz50:∀ s∈l,1≤s.length/\s.length≤3:=fun s hs=>⟨Nat.pos_of_ne_zero (ZP.1 (hl.2.2.1 s hs)).1,h3 s hs⟩
theorem ZVV (hd:∀ s∈l,ZAi s=true):SdX Tc eic tgC (ZAN 0 (ZAL l)) (ZUc (ZAL l)) l (upC l 8) (ZCv (ZC4 (ZAL l) l)) where
 sd:={
  pat:=S50.patC
  sz:=sz50 hl h3
  nd:=fun s hs=>ZC9 (hl.asc s hs)
  fl:=fun F=>ZKB hl.short
  inj:=ZSg hl
  tgc:=fun s _ M _ i hi=>by
   unfold tgC eic
   rw [S50.at_bits ((0,0):Vx),List.getD_eq_getElem?_getD,List.getElem?_map,List.getElem?_eq_getElem hi,List.getD_eq_getElem?_getD (l:=ZAk s.length M),List.getElem?_eq_getElem hi]
   rfl
  tgi:=fun F hF i j hi hj e=>by
   obtain ⟨s,hs,_,hsub⟩:=(ZKB hl.short).1 hF
   have hp:F.Pairwise fun a b=>a.1<b.1:=List.Pairwise.sublist hsub (ZHi (hl.asc s hs) (hd s hs))
   have hp:=List.pairwise_iff_getElem.1 hp
   unfold tgC at e
   rw [List.getD_eq_getElem?_getD,List.getD_eq_getElem?_getD,List.getElem?_eq_getElem hi,List.getElem?_eq_getElem hj] at e
   simp only [Option.getD_some] at e
   rcases Nat.lt_trichotomy i j with h|h|h
   ·have:=hp i j hi hj h;omega
   ·exact h
   ·have:=hp j i hj hi h;omega }
 t:=fun n h1 h3=>S50.chkT_c ⟨n,by omega⟩ h1
 w:=fun n _ h3=>S50.chkW_c ⟨n,by omega⟩
 x:=fun f=>by
  have hg:=hl.2.2.1
  have h5:∀ s∈l,s.length≤5:=fun s hs=>by have:=h3 s hs;omega
  have key:∀ s∈l,∀ bl:List Nat,(ZBY s bl).map (ZGx (ZAL l) s)=((List.range s.length).map fun i=>((i,S50.snapQ bl i 0):Pv)).map (psi tgC (ZAN 0 (ZAL l)) s):=fun s hs bl=>by
   apply List.ext_getElem
   ·rw [List.length_map,ZAF,List.length_map,List.length_map,List.length_range]
   ·intro i q1 q2
    have hi:i<s.length:=by rw [List.length_map,ZAF] at q1;exact q1
    rw [List.getElem_map,ZCe,List.getElem_map,List.getElem_map,List.getElem_range]
    unfold ZGx ZIj psi tgC
    simp only [Int.toNat_natCast]
    rw [ZMP,List.getD_eq_getElem?_getD,List.getElem?_eq_getElem hi]
    rfl
  rw [ZO2 hg h5 hl]
  unfold ZC4 ZCz Tc
  rw [List.mem_flatMap]
  constructor
  ·rintro ⟨s,hs,h⟩
   obtain ⟨t,ht,rfl⟩:=List.mem_map.1 h
   obtain ⟨bl,hb,rfl⟩:=List.mem_map.1 ht
   have e:=ZPF ⟨s.length,by have:=h3 s hs;omega⟩
   simp only at e
   exact ⟨s,hs,_,List.mem_map.2 ⟨bl,by rw [e];exact hb,rfl⟩,key s hs bl⟩
  ·rintro ⟨s,hs,t,ht,rfl⟩
   obtain ⟨bl,hb,rfl⟩:=List.mem_map.1 ht
   have e:=ZPF ⟨s.length,by have:=h3 s hs;omega⟩
   simp only at e
   rw [e] at hb
   exact ⟨s,hs,List.mem_map.2 ⟨_,List.mem_map.2 ⟨bl,hb,rfl⟩,key s hs bl⟩⟩
 car:=fun F hF=>ZLa hl hF
theorem ZNz {f:List Vx}:f∈ZCv (ZBR (ZA2 l) l)↔f∈ZBR (ZA2 l) l:=by
 have hg:=hl.2.2.1
 have h5:∀ s∈l,s.length≤5:=fun s hs=>by have:=h3 s hs;omega
 rw [ZCL]
 refine ⟨fun h=>h.1,fun h=>⟨h,?_⟩⟩
 unfold ZPt
 rw [ZJC hg h5 hl h]
 obtain ⟨s,hs,bl,hb,e⟩:=ZEP h
 have:=(ZP.1 (hg s hs)).1
 have hl:f.length=s.length:=by rw [e,ZCI hg h5 hs hb]
 rw [decide_eq_true (by omega)];rfl
theorem ZVU:SdX Tb eib tgB (ZAN 0 (ZAL l)) (ZUc (ZAL l)) l (upC l 8) (ZCv (ZBR (ZA2 l) l)) where
 sd:={
  pat:=S50.patB
  sz:=sz50 hl h3
  nd:=fun s hs=>ZC9 (hl.asc s hs)
  fl:=fun F=>ZKB hl.short
  inj:=ZSg hl
  tgc:=fun s _ M _ i hi=>rfl
  tgi:=fun F hF i j hi hj e=>by unfold tgB at e;omega }
 t:=fun n h1 h3=>S50.chkT_b ⟨n,by omega⟩ h1
 w:=fun n _ h3=>S50.chkW_b ⟨n,by omega⟩
 x:=fun f=>by
  have hg:=hl.2.2.1
  have h5:∀ s∈l,s.length≤5:=fun s hs=>by have:=h3 s hs;omega
  have key:∀ s∈l,∀ bl∈ZGb (2 ^ s.length-1),ZDX (ZA2 l) s bl=((List.range s.length).map fun k=>((k,S50.orQ bl (k+1)):Pv)).map (psi tgB (ZAN 0 (ZAL l)) s):=fun s hs bl hb=>by
   have hbl:=ZCI hg h5 hs hb
   apply List.ext_getElem
   ·rw [hbl,List.length_map,List.length_map,List.length_range]
   ·intro i q1 q2
    have hi:i<s.length:=by rw [hbl] at q1;exact q1
    rw [ZCr,ZHm hg h5 hs hb hi,List.getElem_map,List.getElem_map,List.getElem_range]
    rfl
  rw [ZNz hl h3]
  unfold ZBR Tb
  rw [List.mem_flatMap]
  constructor
  ·rintro ⟨s,hs,h⟩
   obtain ⟨bl,hb,rfl⟩:=List.mem_map.1 h
   have e:=ZPG ⟨s.length,by have:=h3 s hs;omega⟩ (sz50 hl h3 s hs).1
   simp only at e
   exact ⟨s,hs,_,List.mem_map.2 ⟨bl,by rw [e];exact hb,rfl⟩,key s hs bl hb⟩
  ·rintro ⟨s,hs,t,ht,rfl⟩
   obtain ⟨bl,hb,rfl⟩:=List.mem_map.1 ht
   have e:=ZPG ⟨s.length,by have:=h3 s hs;omega⟩ (sz50 hl h3 s hs).1
   simp only at e
   rw [e] at hb
   exact ⟨s,hs,List.mem_map.2 ⟨bl,hb,key s hs bl hb⟩⟩
 car:=fun F hF=>ZLa hl hF
end
theorem ZU1:∀ n:Fin 4,(Tc n.val).length≤13/\(S50.once (Tc n.val).flatten).length≤12:=by decide +kernel
theorem ZU0:∀ n:Fin 4,(Tb n.val).length≤13/\(S50.once (Tb n.val).flatten).length≤12:=by decide +kernel
theorem ZH4 {α β:Type} (f:α->List β) (B:Nat):∀ l:List α,(∀ s∈l,(f s).length≤B)->(l.flatMap f).length≤B*l.length
 | [],_=>by simp
 | s::l,h=>by
  have ih:=ZH4 f B l fun t ht=>h t (by simp [ht])
  have:=h s (by simp)
  rw [List.flatMap_cons,List.length_append,List.length_cons,Nat.mul_succ]
  omega
section
variable {T:Nat->List (List Pv)} {ei:List Nat->Nat->Nat} {tg:List Vx->Nat->Int} {num:List Vx->Int} {carF:Int->List Vx} {l FL X:Cx}
theorem SdX.few (H:SdX T ei tg num carF l FL X) (hX:GoodX X) (hn:∀ n:Fin 4,(T n.val).length≤13/\(S50.once (T n.val).flatten).length≤12):X.length≤13*l.length/\(ZC6 X).length≤12*l.length:=by
 constructor
 ·refine Nat.le_trans (List.Nodup.length_le_of_subset (l₂:=l.flatMap fun s=>(T s.length).map fun t=>t.map (psi tg num s)) hX.2.1.nodup fun f hf=>?_) (ZH4 _ _ l fun s hs=>?_)
  ·obtain ⟨s,hs,t,ht,rfl⟩:=(H.x f).1 hf
   exact List.mem_flatMap.2 ⟨s,hs,List.mem_map_of_mem ht⟩
  ·rw [List.length_map]
   exact (hn ⟨s.length,by have:=(H.sd.sz s hs).2;omega⟩).1
 ·refine Nat.le_trans (List.Nodup.length_le_of_subset (l₂:=l.flatMap fun s=>(S50.once (T s.length).flatten).map (psi tg num s)) (ZC9 (ZFx X)) fun v hv=>?_) (ZH4 _ _ l fun s hs=>?_)
  ·obtain ⟨f,hf,hv⟩:=ZDi.1 hv
   obtain ⟨s,hs,t,ht,rfl⟩:=(H.x f).1 hf
   obtain ⟨p,hp,rfl⟩:=List.mem_map.1 hv
   exact List.mem_flatMap.2 ⟨s,hs,List.mem_map_of_mem (S50.once_mem.2 (List.mem_flatten.2 ⟨t,ht,hp⟩))⟩
  ·rw [List.length_map]
   exact (hn ⟨s.length,by have:=(H.sd.sz s hs).2;omega⟩).2
end
structure Kept (l:Cx) (d:Sub):Prop where
 good:GoodX d.1
 few:d.1.length≤39
 cars:d.2.2.length≤36
 dim:ZFU d.1=ZFU l
 size:ZDo d.1=ZDo l
 eul:ZGw d.1=ZGw l/\(ZGw l).2=0
 chk:ZDB (okP l d.2.1 d.2.2) l d.1 d.2.1 d.2.2=0
 zero:d.1.length=0↔l.length=0
 comp:0<l.length->ZMx (ZBK d.1)=ZMx (ZBK l)
theorem ZOh {l:Cx} (h3:∀ s∈l,s.length≤3) (hn:l.length≤39) (k:Nat):(ZBB l k).length≤4096:=by
 have:=ZNm (l:=l) (k:=k) (B:=10) fun s hs=>by
  have h5:=h3 s hs
  by_cases hk:k≤5
  ·rw [ZCx];exact ZLd _ (by omega) _ hk
  ·rw [ZA4 k s (by omega)];simp
 omega
theorem SdX.kept {T:Nat->List (List Pv)} {ei:List Nat->Nat->Nat} {tg:List Vx->Nat->Int} {num:List Vx->Int} {carF:Int->List Vx} {l X:Cx} (H:SdX T ei tg num carF l (upC l 8) X) (hl:GoodX l) (hX:GoodX X) (hn:l.length≤3) (hT:∀ n:Fin 4,(T n.val).length≤13/\(S50.once (T n.val).flatten).length≤12):Kept l (X,ZC6 X,(ZC6 X).map fun u=>carF u.2):=by
 obtain ⟨f1,f2⟩:=H.few hX hT
 have l3:∀ s∈l,s.length≤3:=fun s hs=>(H.sd.sz s hs).2
 have x3:∀ f∈X,f.length≤3:=fun f hf=>by
  obtain ⟨s,hs,e⟩:=H.len1 f hf
  have:=l3 s hs
  omega
 have e1:=ZLl (Z4.2 hX) fun k _=>ZOh x3 (by omega) (k+1)
 have e2:=ZLl (Z4.2 hl) fun k _=>ZOh l3 (by omega) (k+1)
 have hz:X.length=0↔l.length=0:=by
  constructor
  ·intro h
   refine Nat.eq_zero_of_not_pos fun q=>?_
   obtain ⟨f,hf,_⟩:=H.len2 _ (List.getElem_mem q)
   rw [List.length_eq_zero_iff.1 h] at hf;cases hf
  ·intro h
   refine Nat.eq_zero_of_not_pos fun q=>?_
   obtain ⟨s,hs,_⟩:=H.len1 _ (List.getElem_mem q)
   rw [List.length_eq_zero_iff.1 h] at hs;cases hs
 exact {
  good:=hX
  few:=by show X.length≤39;omega
  cars:=by show (List.map _ (ZC6 X)).length≤36;rw [List.length_map];omega
  dim:=H.dim
  size:=H.size hl hX
  eul:=by
   show ZGw X=ZGw l/\_
   rw [e1,e2,H.eul hl hX];exact ⟨rfl,rfl⟩
  chk:=H.check hl hX
  zero:=hz
  comp:=fun h=>by
   show ZMx (ZBK X)=_
   rw [ZL5 h,ZL5 (Nat.pos_of_ne_zero fun q=>by have:=hz.1 q;omega),H.parts] }
theorem ZQv {l:Cx} (h0:ZAr l=0) (hn:l.length≤3) (h3:∀ s∈l,s.length≤3):((ZKI l).2=0/\Kept l (ZKI l).1)\/(ZKI l).2=3:=by
 have hl:=Z4.1 h0
 have hg:=hl.2.2.1
 have h5:∀ s∈l,s.length≤5:=fun s hs=>by have:=h3 s hs;omega
 have hs:=ZSs h3
 by_cases hw:ZP0 l=0
 ·left
  have hd:=(ZGp hw).1
  have e:ZKI l=(((ZSy (ZAL l) l).1,(ZSy (ZAL l) l).2.map (·.1),(ZSy (ZAL l) l).2.map (·.2)),0):=by
   unfold ZKI ZVh
   rw [if_neg (by omega),if_neg (by omega)]
  rw [ZSz hg h5 hl] at e
  simp only [List.map_map] at e
  have hm:=fun f=>ZO2 hg h5 hl (f:=f)
  have e1:(ZCH [] (ZC4 (ZAL l) l).flatten).map ((fun p:Vx × List Vx=>p.1) ∘ fun u=>(u,ZGr (ZAL l) u))=ZC6 (ZCv (ZC4 (ZAL l) l)):=by
   rw [<- ZHf hm];exact List.map_id' _
  have e2:(ZCH [] (ZC4 (ZAL l) l).flatten).map ((fun p:Vx × List Vx=>p.2) ∘ fun u=>(u,ZGr (ZAL l) u))=(ZC6 (ZCv (ZC4 (ZAL l) l))).map fun u=>ZUc (ZAL l) u.2:=by
   rw [<- ZHf hm];rfl
  rw [e1,e2] at e
  have hX:GoodX (ZCv (ZC4 (ZAL l) l)):=ZH6 (fun f hf _=>ZLm hg h5 hd hl.1 hf) (by
   have h1:=ZO3 (ZC4 (ZAL l) l)
   have h2:=ZQ9 hg h5
   omega)
  rw [e]
  exact ⟨rfl,(ZVV hl h3 hd).kept hl hX hn ZU1⟩
 ·right
  unfold ZKI ZVh
  rw [if_neg (by omega),if_pos hw]
  show ZP0 l=3
  unfold ZP0 at hw ⊢
  by_cases h1:l.all ZAi=false
  ·rw [if_pos h1]
  ·rw [if_neg h1,if_neg (by rw [List.any_eq_false.2 fun s hs=>by have:=h3 s hs;simp;omega];decide),if_neg (by omega)] at hw
   exact absurd rfl hw
theorem ZQn {l:Cx} (h0:ZAr l=0) (hn:l.length≤3) (h3:∀ s∈l,s.length≤3):(ZP7 l).2=0/\Kept l (ZP7 l).1:=by
 have hl:=Z4.1 h0
 have hg:=hl.2.2.1
 have h5:∀ s∈l,s.length≤5:=fun s hs=>by have:=h3 s hs;omega
 have e:ZP7 l=(((ZSI (ZAL l) l).1,(ZSI (ZAL l) l).2.map (·.1),(ZSI (ZAL l) l).2.map (·.2)),0):=by
  unfold ZP7
  rw [if_neg (by omega)]
 rw [ZSJ hg h5 hl] at e
 simp only [List.map_map] at e
 have hm:=fun f=>ZNz hl h3 (f:=f)
 have e1:(ZCH [] (ZBR (ZA2 l) l).flatten).map ((fun p:Vx × List Vx=>p.1) ∘ fun u=>(u,ZGr (ZAL l) u))=ZC6 (ZCv (ZBR (ZA2 l) l)):=by
  rw [<- ZHf hm];exact List.map_id' _
 have e2:(ZCH [] (ZBR (ZA2 l) l).flatten).map ((fun p:Vx × List Vx=>p.2) ∘ fun u=>(u,ZGr (ZAL l) u))=(ZC6 (ZCv (ZBR (ZA2 l) l))).map fun u=>ZUc (ZAL l) u.2:=by
  rw [<- ZHf hm];rfl
 rw [e1,e2] at e
 have hX:GoodX (ZCv (ZBR (ZA2 l) l)):=ZH6 (fun f hf _=>ZLW hg h5 hl.1 hf) (by
  have h1:=ZO3 (ZBR (ZA2 l) l)
  have h2:=(ZLX (M:=ZA2 l) hg h5).1
  omega)
 rw [e]
 exact ⟨rfl,(ZVU hl h3).kept hl hX hn ZU0⟩
end
section
theorem ZOS {l:Cx} (h:ZFU l≤2):∀ s∈l,s.length≤3:=fun s hs=>by
 have h1:=(ZEk l).1 s hs
 have h2:=ZEj l
 omega
end
section
open Go.RowKit

theorem ZSj (l:List Int) (hl:0<l.length):Fn Tryz.prog 13 [dS ZCC l] (dI (ZMx l)):=by
 (refine ZH Tryz.func13 rfl rfl ?_;simp only [Tryz.ntmps13,List.length_cons,List.length_nil,Nat.reduceAdd,Nat.reduceSub,List.replicate_succ,List.replicate_zero,List.cons_append,List.nil_append])
 have h0:l.headD 0=l[0]:=by cases l with|nil=>simp at hl|cons x l=>rfl
 ((repeat' (first|(apply WL.opN;exact yF;dsimp only [ZA,z0,z1])|refine WL.nil ?_|refine ZC fun Kx hK=>?_|(refine hK _ _ ?_;clear hK)|(refine Kont.skip ?_;clear hK)|refine WC.region ?_|(apply WL.opN;(focus ((first|((first|apply SY.move|apply SY.assign|apply SY.lss) <;> (exact oD))|((first|apply SY.add) <;> first|exact oD|omega)|(apply SY.load;(exact tD);(exact oD))|(apply SY.len;(exact oD);(exact nD);(exact uD))|(apply ZV;exact OpD.t rfl;(first|exact .head _|exact .tail _ (.head _));(exact uD))|(apply Zf;exact OpD.t rfl;(first|exact .head _|exact .tail _ (.head _));(exact uD))|(apply Zi;(exact eD);(exact oD);(exact oD);exact kD)|(apply SY.ix;(exact eD);(exact oD);(exact oD);exact kD)|fail);all_goals infer_instance));dsimp only [ZA,z0,z1])|(apply WC.condT;(exact oD);(with_reducible rfl))|(apply ZK;(exact oD);(with_reducible rfl))|(apply ZE;(exact oD);all_goals (intro h;try exact xD))|(apply WC.condN;(exact oD);all_goals (intro h;try exact xD))|(apply WC.condNB;(exact oD);all_goals (intro h;try exact xD))|(apply WC.cond;(exact oD);all_goals (intro h;try exact xD))|refine WC.skip ?_|refine WC.ret ?_|refine WC.exit ?_|refine WC.block ?_|refine ThenD.n ?_|refine ThenD.r ?_|refine ThenD.x ?_|refine InBlockD.x ?_|refine InBlockD.n ?_|refine InBlockD.r ?_|refine ZL (by decide) ?_));all_goals (first|refine WC.id ?_|refine WL.id ?_|((repeat clear hK);(repeat clear Kx))))
 all_goals first|(exfalso;omega)|skip
 (first|refine Ze (t:=0) rfl ZFf fun hl0=>?_|refine Ze (t:=0) rfl ZFe fun hl0=>?_|refine Ze (t:=0) rfl ZQC fun hl0=>?_);simp only [maxLen] at hl0
 (refine WC.loopU (X:=Nat × Int) (fun k=>[(4,dI ((k.1+1:Nat):Int)),(3,dI k.2),(12,dA),(13,dA),(14,dA),(15,dA),(16,dA),(17,dA),(18,dA),(19,dA),(20,dA),(21,dA),(22,dA),(23,dA)]) (fun k=>[]) (fun k=>l.length-k.1) (fun k=>k.1+1≤l.length/\ZMx l=(l.drop (k.1+1)).foldl max k.2) (0,l[0]) ?start ?frame0 ?objs0 ?round)
 case start=>exact ⟨by omega,by show ZMx l=_;unfold ZMx;rw [h0]⟩
 case frame0=>((try dsimp only [Za,z0,z1]);repeat (first|exact LeF.nil|refine ZF (k:=?_)))
 case objs0=>rfl
 case round =>
  rintro ⟨k,n⟩ ⟨q1,q2⟩
  simp only at q1 q2
  dsimp only [Za,z0,z1]
  by_cases hk:k+1<l.length
  ·rw [List.drop_eq_getElem_cons hk,List.foldl_cons] at q2
   ((repeat' (first|(apply WL.opN;exact yF;dsimp only [ZA,z0,z1])|refine WL.nil ?_|refine ZC fun Kx hK=>?_|(refine hK _ _ ?_;clear hK)|(refine Kont.skip ?_;clear hK)|refine WC.region ?_|(apply WL.opN;(focus ((first|(apply ZNN;exact OpD.t rfl;exact OpD.t rfl)|((first|apply SY.move|apply SY.assign|apply SY.lss) <;> (exact oD))|((first|apply SY.add) <;> first|exact oD|omega)|(apply SY.load;(exact tD);(exact oD))|(apply SY.len;(exact oD);(exact nD);(exact uD))|(apply ZV;exact OpD.t rfl;(first|exact .head _|exact .tail _ (.head _));(exact uD))|(apply Zf;exact OpD.t rfl;(first|exact .head _|exact .tail _ (.head _));(exact uD))|(apply Zi;(exact eD);(exact oD);(exact oD);exact kD)|(apply SY.ix;(exact eD);(exact oD);(exact oD);exact kD)|fail);all_goals infer_instance));dsimp only [ZA,z0,z1])|(apply WC.condT;(exact oD);(with_reducible rfl))|(apply ZK;(exact oD);(with_reducible rfl))|(apply ZE;(exact oD);all_goals (intro h;try exact xD))|(apply WC.condN;(exact oD);all_goals (intro h;try exact xD))|(apply WC.condNB;(exact oD);all_goals (intro h;try exact xD))|(apply WC.cond;(exact oD);all_goals (intro h;try exact xD))|refine WC.skip ?_|refine WC.ret ?_|refine WC.exit ?_|refine WC.block ?_|refine ThenD.n ?_|refine ThenD.r ?_|refine ThenD.x ?_|refine InBlockD.x ?_|refine InBlockD.n ?_|refine InBlockD.r ?_|refine ZL (by decide) ?_));all_goals (first|refine WC.id ?_|refine WL.id ?_|((repeat clear hK);(repeat clear Kx))))
   all_goals first|(exfalso;omega)|skip
   (refine ⟨(k+1,max n l[k+1]),?_,by first|omega|(simp only;omega),rfl,?_⟩;rotate_left;((try dsimp only [Za,z0,z1]);repeat (first|exact LeF.nil|refine ZF (k:=?_)));(try dsimp only))
   exact ⟨by show k+1+1≤_;omega,q2⟩
  ·rw [List.drop_eq_nil_of_le (by omega)] at q2
   ((repeat' (first|(apply WL.opN;exact yF;dsimp only [ZA,z0,z1])|refine WL.nil ?_|refine ZC fun Kx hK=>?_|(refine hK _ _ ?_;clear hK)|(refine Kont.skip ?_;clear hK)|refine WC.region ?_|(apply WL.opN;(focus ((first|((first|apply SY.move|apply SY.assign|apply SY.lss) <;> (exact oD))|((first|apply SY.add) <;> first|exact oD|omega)|(apply SY.load;(exact tD);(exact oD))|(apply SY.len;(exact oD);(exact nD);(exact uD))|(apply ZV;exact OpD.t rfl;(first|exact .head _|exact .tail _ (.head _));(exact uD))|(apply Zf;exact OpD.t rfl;(first|exact .head _|exact .tail _ (.head _));(exact uD))|(apply Zi;(exact eD);(exact oD);(exact oD);exact kD)|(apply SY.ix;(exact eD);(exact oD);(exact oD);exact kD)|fail);all_goals infer_instance));dsimp only [ZA,z0,z1])|(apply WC.condT;(exact oD);(with_reducible rfl))|(apply ZK;(exact oD);(with_reducible rfl))|(apply ZE;(exact oD);all_goals (intro h;try exact xD))|(apply WC.condN;(exact oD);all_goals (intro h;try exact xD))|(apply WC.condNB;(exact oD);all_goals (intro h;try exact xD))|(apply WC.cond;(exact oD);all_goals (intro h;try exact xD))|refine WC.skip ?_|refine WC.ret ?_|refine WC.exit ?_|refine WC.block ?_|refine ThenD.n ?_|refine ThenD.r ?_|refine ThenD.x ?_|refine InBlockD.x ?_|refine InBlockD.n ?_|refine InBlockD.r ?_|refine ZL (by decide) ?_));all_goals (first|refine WC.id ?_|refine WL.id ?_|((repeat clear hK);(repeat clear Kx))))
   all_goals first|(exfalso;omega)|skip
   (refine ⟨trivial,_,rfl,?_⟩;(first|exact fD|refine FinD.i ?_|refine FinD.b ?_|refine ZAQ (.head _) ?_|refine ZBC (.head _) ?_|refine ZAE (by decide) ?_|refine FinD.nilE ?_|refine ZCV ?_))
   exact q2.symm
end
section
open Go.RowKit
theorem ZMN {a b c:Dat}:(ZGJ [a,b,c]).Shape 3 true:=ZJ7 (by decide) rfl

end
end Go.Proofs.YtekiljakcngcoaaGreatDoor
