/- Part 15: walks by contracts, and plain laws. -/
import Derived.DeepKeys4
import Derived.Test.YtokmalofdapffaaGreatV14
set_option linter.unusedVariables false
set_option linter.unusedSimpArgs false
set_option linter.unusedSectionVars false
set_option maxRecDepth 100000
set_option maxHeartbeats 4000000
namespace Go.Proofs.YtokmalofdapffaaGreat.M
section
open Go.RowKit
section
variable {P:Program} {ops:Array Oper} {hp:List HObj} {o:Oper} {fr:List Dat} {d:Dat} {Q:ZAE} {rest:List Oper}
variable {dst:Option Tmp} {ty:TypeId} {ps:String} {af:Array Edge} {g:Option (Nat × Bool)}
theorem WL.alloc {T:TypeId} {n:Nat} {agg:Bool} {z:Value} (hz:TyZ P T z) (hs:(dX z).Shape n agg)
  (h:∀ b,WL P ops Q rest (ZB fr dst (dX (.pointer (some ⟨b,0,none⟩)))) (ZO b T n agg (dX z)::hp)):WL P ops Q (⟨dst,.alloc T,ty,ps,af,none⟩::rest) fr hp:=by
 refine WL.of fun P0 B w0 w a hh hf=>?_
 obtain ⟨cs,k1,k0,k2,k3,k4⟩:=hs (fun _=>True) w z rfl
 have hrun:(execOp a.eval ⟨dst,.alloc T,ty,ps,af,none⟩).run P w = .ok (.value (.pointer (some ⟨w.heap.size,0,none⟩))) (w.alloc (.cells cs.toArray T)):=by
  cases hq:P.info? T with
  | none=>have:=hz.out;simp [hq] at this
  | some i =>
   have hz':i.zero=some z:=by have:=hz.out;simpa [hq] using this
   unfold execOp
   simp [Instr.alloc,zeroValue,typeInfo,hq,hz',newVar,newRow,k3]
 refine Zi rfl hrun ?_
 have hx:=Ext.of_alloc w (.cells cs.toArray T)
 have hb:∀ k,(ZO w.heap.size T n agg (dX z)).blk=some k->w.heap.size≤k/\k<(w.alloc (.cells cs.toArray T)).heap.size:=fun k hk=>by
  cases hk
  exact ⟨Nat.le_refl _,by simp⟩
 refine (h w.heap.size).on ⟨hh.h.push hx.b hb ⟨cs,z,Zx w _,k1,k0,k2,k4,rfl⟩,hh.d⟩ ?_
 exact Fr.put (hf.mono fun d _ hd=>Z8 hx.b (fun k hk=>(hb k hk).1) hd) rfl

theorem ZAf {x:Operand} {t b n:Nat} {T T2:TypeId} {agg:Bool} {d0:Dat} (hT:TyI P T n agg) (hp0:OpD fr (.tmp t) (dX (.pointer (some ⟨b,0,none⟩)))) (hx:OpD fr x d) (hs:d.Shape n agg)
  (h:WL P ops Q rest (ZB fr dst (dX undef)) (ZO b T2 n agg d::hp)):WL P ops Q (⟨dst,.store T (.tmp t) x,ty,ps,af,none⟩::rest) fr (ZO b T2 n agg d0::hp):=by
 refine WL.of fun P0 B w0 w a hh hf=>?_
 obtain ⟨cs,u,c1,c2,c0,c3,c4,c5⟩:=hh.h.ok (ZO b T2 n agg d0) (by simp)
 have h1:=hx.ev hf
 obtain ⟨cs',k1,k0,k2,k3,k4⟩:=hs _ _ _ h1
 have h2:a.eval (.tmp t) = .pointer (some ⟨b,0,none⟩):=hp0.ev hf
 have hr:=ZBW (u:=a.eval x) hT.size c1 c2 k1 k2 k3
 have hrun:(execOp a.eval ⟨dst,.store T (.tmp t) x,ty,ps,af,none⟩).run P w = .ok .skip (w.setRow b cs'.toArray):=by
  unfold execOp
  simp only [h2,Sem.run_bind,hr,Result.andThen_ok,Sem.run_pure]
 refine wpList_plain rfl fun K hK=>?_
 unfold Oper.wp
 rw [hrun]
 have hgr:w.grownBy (w.setRow b cs'.toArray) (ZO b T2 n agg d0).blk:=ZAH
 have hok:(ZO b T2 n agg d).ok (fun k=>Imm P0 B (ZO b T2 n agg d0::hp) k/\k<w.heap.size) (w.setRow b cs'.toArray) :=
  ⟨cs',a.eval x,setRow_heap w b _ _ _ _ c1,k1,k0,k2,k4,d.grown (d.bound h1) hgr (fun k hk hc=>hc.1.2 _ (by simp) hk)⟩
 exact hK _ _ (h.on ⟨hh.h.write hgr (.inl rfl) hok,hh.d⟩ (Fr.put (hf.mono fun _ _ hd=>ZN (o':=ZO b T2 n agg d) hgr (.inl rfl) hd) (d:=dX undef) rfl))
theorem ZC2 {t b n:Nat} {T:TypeId} {agg:Bool} (hp0:fr[t]?=some (dX (.pointer (some ⟨b,0,none⟩)))) (h:WL P ops Q rest (fr.set t (dP n agg d)) hp):WL P ops Q rest fr (ZO b T n agg d::hp):=by
 refine WL.of fun P0 B w0 w a hh hf=>?_
 obtain ⟨cs,u,c1,c2,c0,c3,c4,c5⟩:=hh.h.ok (ZO b T n agg d) (by simp)
 have hown:=hh.h.own (ZO b T n agg d) (by simp) b rfl
 refine h.on ⟨hh.h.drop,hh.d⟩ ⟨hf.defers,by rw [hf.size,List.length_set],fun t' d' hd'=>?_⟩
 by_cases htt:t=t'
 ·subst htt
  rw [List.getElem?_set] at hd'
  simp only [if_true] at hd'
  split at hd'
  ·cases hd'
   have hv:a.tmps.getD t undef = .pointer (some ⟨b,0,none⟩):=hf.rd t _ hp0
   rw [hv]
   refine ⟨b,0,u,rfl,ZAF c1 c2 c0 c3 c4 ⟨.inr hown.1,fun o' ho' hk=>?_⟩,d.weak c5 Imm.sub⟩
   exact (List.pairwise_cons.1 hh.h.apart).1 o' ho' b rfl hk
  ·cases hd'
 ·rw [List.getElem?_set_ne htt] at hd'
  exact d'.weak (hf.rd t' d' hd') Imm.sub
theorem ZI {x:Operand} {t b n:Nat} {T T2:TypeId} {agg:Bool} {d0:Dat} (hT:TyI P T n agg) (hp0:fr[t]?=some (dX (.pointer (some ⟨b,0,none⟩)))) (hx:OpD fr x d) (hs:d.Shape n agg)
  (h:WL P ops Q rest (fr.set t (dP n agg d)) hp):WL P ops Q (⟨none,.store T (.tmp t) x,ty,ps,af,none⟩::rest) fr (ZO b T2 n agg d0::hp) :=
 ZAf hT (OpD.t hp0) hx hs (ZC2 hp0 h)
end
end
section
open Go.RowKit

set_option maxHeartbeats 4000000 in
theorem ZM1 (a b:List Vx):Fn Tryz.prog 63 [dS ZJ a,dS ZJ b,ZKS Tryz.prog (fun x:Vx × Vx=>[dS RV x.1,dS RV x.2]) (fun x=>dI (ZCL x.1 x.2))] (dI (ZAB a b)):=by
 (refine ZG Tryz.func63 rfl rfl ?_;simp only [Tryz.ntmps63,List.length_cons,List.length_nil,Nat.reduceAdd,Nat.reduceSub,List.replicate_succ,List.replicate_zero,List.cons_append,List.nil_append])
 (repeat' (first|(apply ZF;(focus (apply SYG.yes;(exact ZP rfl);(first|(apply SY.move <;> (exact oD))|(apply SY.assign <;> (exact oD))|(apply SY.load;(exact tD);(exact OpD.t rfl)))));dsimp only [ZB,z0,z1])|refine WL.nil ?_|refine ZA fun Kx hK=>?_|(refine hK _ _ ?_;clear hK)|refine WC.region ?_|(apply ZF;(focus (apply SYG.yes;(exact ZP rfl);((first|(apply SY.len;(exact oD);(exact nD);(exact uD))|fail);all_goals infer_instance)));dsimp only [ZB,z0,z1])|refine WC.block ?_))
 (first|refine ZV (t:=0) rfl ZGA fun hl0=>?_|refine ZV (t:=0) rfl ZF5 fun hl0=>?_);simp only [maxLen] at hl0
 (first|refine ZV (t:=1) rfl ZGA fun hl1=>?_|refine ZV (t:=1) rfl ZF5 fun hl1=>?_);simp only [maxLen] at hl1
 (refine ZH (X:=Nat) (fun k=>[(13,dI (k:Int)),(6,dA),(7,dA),(8,dA),(9,dA),(10,dA),(14,dA),(15,dA),(16,dA),(17,dA),(18,dA),(19,dA),(20,dA),(21,dA),(22,dA),(23,dA),(24,dA),(25,dA),(26,dA),(27,dA),(28,dA),(29,dA),(30,dA),(31,dA),(32,dA),(33,dA)]) (fun k=>[]) (fun k=>a.length-k) (fun k=>k≤a.length/\k≤b.length/\ZAB a b=ZAB (a.drop k) (b.drop k)) 0 ?start ?frame0 ?objs0 ?round)
 case start=>exact ⟨Nat.zero_le _,Nat.zero_le _,rfl⟩
 case frame0=>((try dsimp only [ZQ,z0,z1]);repeat (first|exact LeF.nil|refine ZD (k:=?_)))
 case objs0=>rfl
 case round =>
  rintro k ⟨h1,h2,h3⟩
  dsimp only [ZQ,z0,z1]
  ((repeat' (first|(apply ZF;(focus (apply SYG.yes;(exact ZP rfl);(first|(apply SY.move <;> (exact oD))|(apply SY.assign <;> (exact oD))|(apply SY.load;(exact tD);(exact OpD.t rfl)))));dsimp only [ZB,z0,z1])|refine WL.nil ?_|refine ZA fun Kx hK=>?_|(refine hK _ _ ?_;clear hK)|(refine Kont.skip ?_;clear hK)|refine WC.region ?_|(apply WL.alloc;(exact tzV);(first|exact ZZ rfl|exact Zw);(intro _;dsimp only [ZB,z0,z1]))|(apply ZI;(exact tD);rfl;(exact oD);(exact hD);dsimp only [ZB,z0,z1])|(apply ZF;(focus (apply SYG.yes;(exact ZP rfl);((first|(apply ZAu (x:=((a[k],b[k]):Vx × Vx));(exact OpD.t rfl);(exact aD))|((first|apply SY.move|apply SY.assign|apply SY.lss|apply SY.geq|apply SY.neq) <;> (exact oD))|((first|apply SY.add) <;> first|exact oD|omega)|(apply SY.len;(exact oD);(exact nD);(exact uD))|(apply ZA5;(exact eD);(exact oD);(exact oD);exact kD)|fail);all_goals infer_instance)));dsimp only [ZB,z0,z1])|(apply WC.condD;(exact oD);(all_goals intro h);(all_goals try (exfalso;first|omega|contradiction)))|(apply WC.condN;(exact oD);(all_goals intro h);(all_goals try (exfalso;first|omega|contradiction)))|refine WC.skip ?_|refine WC.ret ?_|refine WC.exit ?_|refine WC.block ?_|refine ThenD.n ?_|refine ThenD.r ?_|refine InBlockD.r ?_));all_goals (first|((repeat clear hK);(repeat clear Kx))))
  all_goals first
   | ((refine ⟨k+1,?_,by first|omega|(simp only;omega),rfl,?_⟩;rotate_left;((try dsimp only [ZQ,z0,z1]);repeat (first|exact LeF.nil|refine ZD (k:=?_)));(try dsimp only));exact ⟨by omega,by omega,h3.trans (ZFZ (by omega) (by omega) (by assumption))⟩)
   | ((refine ⟨trivial,_,rfl,?_⟩;refine FinD.i ?_);rw [h3,ZD2];repeat' split) <;> first|rfl|contradiction|omega
theorem ZDg (a b:List Vx):Fn Tryz.prog 35 [dS ZJ a,dS ZJ b] (dI (ZAB a b)):=by
 (refine ZG Tryz.func35 rfl rfl ?_;simp only [Tryz.ntmps35,List.length_cons,List.length_nil,Nat.reduceAdd,Nat.reduceSub,List.replicate_succ,List.replicate_zero,List.cons_append,List.nil_append])
 ((repeat' (first|(apply ZF;(focus (apply SYG.yes;(exact ZP rfl);(first|(apply SY.move <;> (exact oD))|(apply SY.assign <;> (exact oD)))));dsimp only [ZB,z0,z1])|refine WL.nil ?_|refine ZA fun Kx hK=>?_|(refine hK _ _ ?_;clear hK)|refine WC.region ?_|(apply ZF;(focus (apply SYG.yes;(exact ZP rfl);((first|(apply SY.call (ZM1 _ _) Tryz.call63;(exact aD))|fail);all_goals infer_instance)));dsimp only [ZB,z0,z1])|refine WC.ret ?_));all_goals (first|((repeat clear hK);(repeat clear Kx))))
 all_goals ((refine ⟨trivial,_,rfl,?_⟩;refine FinD.i ?_);try rfl)
theorem ZSb {I:Nat->Prop} {w:World} {u v:Value} {a b:List Vx} (hu:ZJ I w u a) (hv:ZJ I w v b):Calls Tryz.prog 35 #[u,v] w fun e w'=>e = .returned (.int .i64 (ZAB a b))/\∃ q os',w'=Go.Sort.grow (w.drewN q) os':=by
 have:=(ZDg a b).out I w [u,v] rfl (fun i d hd=>by
  match i with
  | 0=>cases hd;exact hu
  | 1=>cases hd;exact hv
  | i+2=>simp at hd)
 exact this.mono fun e w' ⟨v,h1,h2,h3⟩=>⟨by rw [h1];exact congrArg _ h3,h2.grow⟩
end
end Go.Proofs.YtokmalofdapffaaGreat.M
namespace Go.Proofs.YtokmalofdapffaaGreat
section
theorem ZAs {a b c:List Vx} (h:ZAB a b<0) (k:ZAB b c<0):ZAB a c<0:=by
 obtain ⟨h1,h2⟩:=ZDP a b c (by omega) (by omega)
 rcases Int.lt_or_eq_of_le h1 with h3|h3
 ·exact h3
 ·have:=h2 h3;omega
theorem ZBE (a:List Vx):ZAB a a=0:=ZA2.2 rfl
theorem ZBy (a b:List Vx):ZAB a b<0\/ZAB b a<0\/a=b:=by
 have h:=ZCg a b
 by_cases h1:ZAB a b<0
 ·exact .inl h1
 by_cases h2:ZAB b a<0
 ·exact .inr (.inl h2)
 ·exact .inr (.inr (ZA2.1 (by omega)))
def ZLL (xs:Cx):Prop:=xs.Pairwise fun a b=>¬ ZAB b a<0
def AscL (xs:Cx):Prop:=xs.Pairwise fun a b=>ZAB a b<0
theorem ZD1:∀ {a b:Cx},AscL a->AscL b->(∀ x,x∈a↔x∈b)->a=b
 | [],[],_,_,_=>rfl
 | [],y::b,_,_,h=>absurd ((h y).2 (by simp)) (by simp)
 | x::a,[],_,_,h=>absurd ((h x).1 (by simp)) (by simp)
 | x::a,y::b,ha,hb,h=>by
  unfold AscL at ha hb
  rw [List.pairwise_cons] at ha hb
  have hxy:x=y:=by
   have h1:=(h x).1 (by simp)
   have h2:=(h y).2 (by simp)
   rw [List.mem_cons] at h1 h2
   rcases h1 with h1|h1
   ·exact h1
   rcases h2 with h2|h2
   ·exact h2.symm
   have h3:=hb.1 x h1
   have h4:=ha.1 y h2
   have:=ZCg x y
   omega
  subst hxy
  rw [ZD1 ha.2 hb.2 fun z=>?_]
  have h1:=h z
  rw [List.mem_cons,List.mem_cons] at h1
  constructor
  ·intro hz
   rcases h1.1 (.inr hz) with rfl|h2
   ·have:=ha.1 z hz;have:=ZBE z;omega
   ·exact h2
  ·intro hz
   rcases h1.2 (.inr hz) with rfl|h2
   ·have:=hb.1 z hz;have:=ZBE z;omega
   ·exact h2
theorem AscL.nodup {a:Cx} (h:AscL a):a.Nodup:=List.Pairwise.imp (fun {x y} hxy hc=>by
 subst hc;have:=ZBE x;omega) h
def ZH6 (xs:Cx) (m:Nat) (zs:Cx):Prop:=AscL zs/\(∀ v,v∈zs↔v∈xs.take m)/\zs.getLast?=xs[m-1]?
theorem ZMn {zs:Cx} {l:List Vx} (h:AscL zs) (hl:zs.getLast?=some l):∀ a∈zs,a=l\/ZAB a l<0:=by
 obtain ⟨ys,rfl⟩:=List.getLast?_eq_some_iff.1 hl
 intro a ha
 rcases List.mem_append.1 ha with ha|ha
 ·exact .inr ((List.pairwise_append.1 h).2.2 a ha l (by simp))
 ·exact .inl (by simpa using ha)
theorem ZJi {xs:Cx} (h:1≤xs.length):ZH6 xs 1 (xs.take 1):=by
 match xs,h with
 | x::l,_=>exact ⟨by simp [AscL],fun v=>Iff.rfl,by simp⟩
theorem ZGS {xs zs:Cx} {m:Nat} (hs:ZLL xs) (h:ZH6 xs m zs) (h1:1≤m) (h2:m<xs.length) (hne:xs[m]≠xs[m-1]'(by omega)):ZH6 xs (m+1) (zs++[xs[m]]):=by
 obtain ⟨ha,hm,hl⟩:=h
 rw [List.getElem?_eq_getElem (by omega:m-1<xs.length)] at hl
 have hlt:ZAB (xs[m-1]'(by omega)) xs[m]<0:=by
  have h3:=(List.pairwise_iff_getElem.1 hs) (m-1) m (by omega) h2 (by omega)
  rcases ZBy (xs[m-1]'(by omega)) xs[m] with k|k|k
  ·exact k
  ·exact absurd k h3
  ·exact absurd k.symm hne
 refine ⟨List.pairwise_append.2 ⟨ha,by simp,fun a haz b hb=>?_⟩,fun v=>?_,by simp [h2]⟩
 ·have hb':b=xs[m]:=by simpa using hb
  subst hb'
  rcases ZMn ha hl a haz with rfl|h4
  ·exact hlt
  ·exact ZAs h4 hlt
 ·rw [List.mem_append,hm,ZBt h2];simp
theorem ZGT {xs zs:Cx} {m:Nat} (h:ZH6 xs m zs) (h1:1≤m) (h2:m<xs.length) (he:xs[m]=xs[m-1]'(by omega)):ZH6 xs (m+1) zs:=by
 obtain ⟨ha,hm,hl⟩:=h
 refine ⟨ha,fun v=>?_,?_⟩
 ·rw [hm,ZBt h2]
  refine ⟨.inl,fun h=>h.elim id fun h=>?_⟩
  rw [h,he,List.mem_take_iff_getElem]
  exact ⟨m-1,by omega,rfl⟩
 ·rw [hl,Nat.add_sub_cancel,List.getElem?_eq_getElem h2,List.getElem?_eq_getElem (by omega),he]
theorem ZIk {xs zs:Cx} {m:Nat} (h:ZH6 xs m zs) (h2:xs.length≤m):AscL zs/\∀ v,v∈zs↔v∈xs:=⟨h.1,fun v=>by rw [h.2.1,List.take_of_length_le h2]⟩
theorem ZHQ:∀ {l:Cx} {s x:List Vx},x∈ZOl l s↔x=s\/x∈l
 | [],s,x=>by simp [ZOl]
 | y::l,s,x=>by
  unfold ZOl
  split
  ·simp
  ·rw [List.mem_cons,ZHQ,List.mem_cons]
   constructor
   ·rintro (h|h|h) <;> simp [h]
   ·rintro (h|h|h) <;> simp [h]
theorem ZQQ {l:Cx} {s x:List Vx}:x∈ZHz l s↔x=s\/x∈l:=by
 unfold ZHz
 split
 ·rename_i h
  exact ⟨.inr,fun h'=>h'.elim (fun e=>e ▸ h) id⟩
 ·exact ZHQ
theorem ZKi:∀ {l:Cx} {s:List Vx},AscL l->s∉l->AscL (ZOl l s)
 | [],s,_,_=>by simp [ZOl,AscL]
 | y::l,s,h,hs=>by
  have h':=h
  unfold AscL at h'
  rw [List.pairwise_cons] at h'
  unfold ZOl
  split
  ·rename_i hlt
   unfold AscL
   rw [List.pairwise_cons]
   refine ⟨fun a ha=>?_,h⟩
   rcases List.mem_cons.1 ha with rfl|ha
   ·exact hlt
   ·exact ZAs hlt (h'.1 a ha)
  ·rename_i hlt
   unfold AscL
   rw [List.pairwise_cons]
   refine ⟨fun a ha=>?_,ZKi h'.2 fun hc=>hs (by simp [hc])⟩
   rcases ZHQ.1 ha with rfl|ha
   ·rcases ZBy a y with k|k|k
    ·exact absurd k hlt
    ·exact k
    ·exact absurd (by rw [k];simp) hs
   ·exact h'.1 a ha
theorem ZQO {l:Cx} {s:List Vx} (h:AscL l):AscL (ZHz l s):=by
 unfold ZHz
 split
 ·exact h
 ·rename_i hs;exact ZKi h hs
theorem ZDo:∀ {l out:Cx},AscL out->AscL (l.foldl ZHz out)
 | [],_,h=>h
 | s::l,out,h=>ZDo (l:=l) (ZQO h)
theorem ZDp:∀ {l out:Cx} {x:List Vx},x∈l.foldl ZHz out↔x∈l\/x∈out
 | [],out,x=>by simp
 | s::l,out,x=>by
  rw [List.foldl_cons,ZDp (l:=l),ZQQ,List.mem_cons]
  constructor
  ·rintro (h|h|h) <;> simp [h]
  ·rintro ((h|h)|h) <;> simp [h]
theorem ZFG (l:Cx):AscL (ZKs l):=ZDo (by simp [AscL])
theorem ZCH {l:Cx} {s:List Vx}:s∈ZKs l↔s∈l/\ZQj l s=true:=by
 unfold ZKs
 rw [ZDp,List.mem_filter]
 simp
theorem ZAG {l:Cx} {s:List Vx}:ZAM l s=true↔∃ x∈l,s.length<x.length/\Zb s x=true:=by
 unfold ZAM
 simp
theorem ZHE {l l':Cx} (h:∀ x,x∈l↔x∈l') (s:List Vx):ZAM l s=ZAM l' s:=by
 rw [Bool.eq_iff_iff,ZAG,ZAG]
 constructor
 ·rintro ⟨x,hx,hr⟩;exact ⟨x,(h x).1 hx,hr⟩
 ·rintro ⟨x,hx,hr⟩;exact ⟨x,(h x).2 hx,hr⟩
theorem ZNm {l zs:Cx} (h0:∀ s∈l,0<s.length) (ha:AscL zs) (hm:∀ u,u∈zs↔u∈l):(zs.filter fun s=>!ZAM zs s)=ZKs l:=by
 refine ZD1 (List.Pairwise.filter _ ha) (ZFG l) fun s=>?_
 rw [List.mem_filter,ZCH,hm]
 unfold ZQj
 rw [ZHE hm]
 constructor
 ·rintro ⟨h1,h2⟩;exact ⟨h1,by rw [decide_eq_true (h0 s h1)];exact h2⟩
 ·rintro ⟨h1,h2⟩;rw [decide_eq_true (h0 s h1)] at h2;exact ⟨h1,h2⟩
end
section
open Go.RowKit

def ZPd (l:Cx) (s:List Vx) (i:Int):Bool:=decide (s.length<(l.getD i.toNat []).length) && ZCj s (l.getD i.toNat [])
theorem ZSf (l:Cx) (s:List Vx) (i:Int) (h0:0≤i) (h1:i<l.length):Fn Tryz.prog 65 ([dI i]++[dP 1 false (dS ZBN l),dP 1 false (dS ZJ s)]) (dB (ZPd l s i)):=by
 obtain ⟨k,rfl⟩:∃ k:Nat,i=k:=⟨i.toNat,by omega⟩
 have hk:k<l.length:=by omega
 have e:ZPd l s (k:Int)=(decide (s.length<l[k].length) && ZCj s l[k]):=by
  unfold ZPd
  rw [Int.toNat_natCast,show l.getD k []=l[k] by simp [List.getD,hk]]
 rw [e]
 show Fn Tryz.prog 65 [dI (k:Int),dP 1 false (dS ZBN l),dP 1 false (dS ZJ s)] _
 (refine ZG Tryz.func65 rfl rfl ?_;simp only [Tryz.ntmps65,List.length_cons,List.length_nil,Nat.reduceAdd,Nat.reduceSub,List.replicate_succ,List.replicate_zero,List.cons_append,List.nil_append])
 ((repeat' (first|((first|apply WL.opN|apply WD.opN);exact yF;dsimp only [ZB,z0,z1])|refine WL.nil ?_|refine WD.nil ?_|refine ZA fun Kx hK=>?_|(refine hK _ _ ?_;clear hK)|refine WC.region ?_|(apply WC.draw;kernel_rfl;kernel_rfl)|((first|apply ZF|apply WD.op);(focus (first|exact wN|(apply SYG.yes;(exact wY);((first|(apply SY.call (ZPq _ _) Tryz.call66;(exact aD))|exact ZDe|exact ZHv|exact ZEn|exact ZBw|exact ZS|exact ZEK|fail);all_goals infer_instance))));dsimp only [ZB,z0,z1])|((first|refine ZM rfl rfl rfl (fun h=>?_) (fun h=>?_)|refine ZL rfl rfl rfl (fun h=>?_) (fun h=>?_)|refine ZK rfl rfl rfl (fun h=>?_) (fun h=>?_)|refine Zp rfl rfl rfl (fun h=>?_) (fun h=>?_)|refine Zo rfl rfl rfl (fun h=>?_) (fun h=>?_)|refine Zl rfl rfl rfl (fun h=>?_) (fun h=>?_)) <;> (first|(exfalso;first|omega|contradiction)|(dsimp only [z0,z1])))|refine WC.ret ?_));all_goals (first|((repeat clear hK);(repeat clear Kx))))
 ·rw [decide_eq_true (show s.length<l[k].length by omega),Bool.true_and]
  (refine ⟨trivial,_,rfl,?_⟩;exact fD)
 ·rw [decide_eq_false (show ¬ s.length<l[k].length by omega),Bool.false_and]
  (refine ⟨trivial,_,rfl,?_⟩;exact fD)
abbrev MemI (l:List Int):={v:Int // v∈l}
theorem ZEY (l:Cx) (at':List Int) (s:List Vx) (hat:∀ i∈at',0≤i/\i<l.length):Fn Tryz.prog 37 [dS ZBN l,dS ZBk at',dS ZJ s] (dB (at'.any (ZPd l s))):=by
 (refine ZG Tryz.func37 rfl rfl ?_;simp only [Tryz.ntmps37,List.length_cons,List.length_nil,Nat.reduceAdd,Nat.reduceSub,List.replicate_succ,List.replicate_zero,List.cons_append,List.nil_append])
 ((repeat' (first|(apply WL.opN;exact yF;dsimp only [ZB,z0,z1])|refine WL.nil ?_|refine ZA fun Kx hK=>?_|(refine hK _ _ ?_;clear hK)|refine WC.region ?_|(apply WL.opN;(focus ((first|(apply ZCU (A:=fun v:MemI at'=>[dI v.1]) (r:=fun v=>dB (ZPd l s v.1)) Tryz.call65 (fun v=>ZSf l s v.1 (hat v.1 v.2).1 (hat v.1 v.2).2) (fun _=>ZEo);(exact aD))|(apply SY.call (ZSc at' (ZPd l s)) Tryz.call64;(exact aD))|exact ZF3|fail);all_goals infer_instance));dsimp only [ZB,z0,z1])|refine WC.ret ?_));all_goals (first|((repeat clear hK);(repeat clear Kx))))
 all_goals (refine ⟨trivial,_,rfl,?_⟩;exact fD)
end
section
open Go.RowKit

def ZR:Nat->List (Value × Value)->List MapEntry
 | _,[]=>[]
 | i,p::m=>⟨p.1,p.2,i⟩::ZR (i+1) m
def ZAX (m:List (Value × Value)):Obj:=.map (ZR 0 m).toArray m.length
theorem Z5:∀ (m:List (Value × Value)) (i:Nat),(ZR i m).length=m.length
 | [],_=>rfl
 | _::m,i=>by simp [ZR,Z5 m]
theorem ZAi:∀ (m:List (Value × Value)) (i j:Nat) (h:j<m.length),(ZR i m)[j]'(by rw [Z5];exact h)=⟨m[j].1,m[j].2,i+j⟩
 | [],_,j,h=>by simp at h
 | p::m,i,0,_=>by simp [ZR]
 | p::m,i,j+1,h=>by
  simp only [ZR,List.getElem_cons_succ]
  rw [ZAi m (i+1) j (by simpa using h)]
  congr 1;omega
theorem ZCh:∀ (m:List (Value × Value)) (i:Nat) (p:Value × Value),ZR i (m++[p])=ZR i m++[⟨p.1,p.2,i+m.length⟩]
 | [],i,p=>by simp [ZR]
 | q::m,i,p=>by
  simp only [List.cons_append,ZR,ZCh m (i+1) p,List.length_cons]
  congr 4;omega
theorem ZC6:∀ (m:List (Value × Value)) (i j:Nat) (p:Value × Value),ZR i (m.set j p)=(ZR i m).set j ⟨p.1,p.2,i+j⟩
 | [],_,_,_=>rfl
 | q::m,i,0,p=>by simp [ZR]
 | q::m,i,j+1,p=>by
  simp only [List.set_cons_succ,ZR,ZC6 m (i+1) j p]
  congr 3;omega
structure KeyT (P:Program) (k:TypeId) {K:Type} (kv:K->Value) (ok:K->Prop):Prop where
 law:Go.Maps.Keyed P k
 lit:∀ x,ok x->∃ l,keyOf P k (kv x)=some l
 inj:∀ x y,ok x->ok y->kv x=kv y->x=y
structure MapT (P:Program) (t k e:TypeId) (z:Value):Prop where
 under:P.underlying t=some (.map k e)
 zero:∀ w,(zeroValue e).run P w = .ok z w
section
variable {P:Program} {k t e:TypeId} {z:Value} {K V:Type} {kv:K->Value} {ok:K->Prop} {vv:V->Value}
def ZAP (kv:K->Value) (vv:V->Value) (m:List (K × V)):List (Value × Value):=m.map fun p=>(kv p.1,vv p.2)
def lookM [DecidableEq K] (m:List (K × V)) (x:K):Option V:=(m.find? fun p=>decide (p.1=x)).map (·.2)
theorem ZHJ (H:KeyT P k kv ok) {m:List (K × V)} (hm:∀ p∈m,ok p.1) {x:K} (hx:ok x) (w:World) :
  ((Instr.findKey k (kv x) (ZR 0 (ZAP kv vv m))).run P w = .ok none w/\∀ p∈m,p.1≠x) \/
  ∃ (j:Nat) (h:j<m.length),m[j].1=x/\(Instr.findKey k (kv x) (ZR 0 (ZAP kv vv m))).run P w = .ok (some (j,vv m[j].2)) w:=by
 obtain ⟨lx,hlx⟩:=H.lit x hx
 have hl:(ZAP kv vv m).length=m.length:=by simp [ZAP]
 have hat:∀ (j:Nat) (h:j<m.length),(ZR 0 (ZAP kv vv m))[j]'(by rw [Z5,hl];exact h)=⟨kv m[j].1,vv m[j].2,j⟩:=fun j h=>by
  rw [ZAi _ _ _ (by rw [hl];exact h)]
  simp [ZAP]
 have hk:∀ en∈ZR 0 (ZAP kv vv m),∃ l,keyOf P k en.key=some l:=fun en hen=>by
  obtain ⟨j,hj,rfl⟩:=List.getElem_of_mem hen
  have hj':j<m.length:=by rw [Z5,hl] at hj;exact hj
  rw [hat j hj']
  exact H.lit _ (hm _ (List.getElem_mem hj'))
 rcases H.law.find w hlx _ hk with ⟨h1,h2⟩|⟨j,en,h1,h2,h3⟩
 ·refine .inl ⟨h1,fun p hp hpx=>?_⟩
  obtain ⟨j,hj,rfl⟩:=List.getElem_of_mem hp
  have hj':j<(ZR 0 (ZAP kv vv m)).length:=by rw [Z5,hl];exact hj
  refine h2 _ (List.getElem_mem hj') ?_
  rw [hat j hj,hpx]
 ·have hj:=(List.getElem?_eq_some_iff.1 h2).1
  have hj':j<m.length:=by rw [Z5,hl] at hj;exact hj
  have he:en=⟨kv m[j].1,vv m[j].2,j⟩:=by rw [<- hat j hj',(List.getElem?_eq_some_iff.1 h2).2]
  refine .inr ⟨j,hj',H.inj _ _ (hm _ (List.getElem_mem hj')) hx ?_,?_⟩
  ·rw [<- h3,he]
  ·rw [h1,he]
section
variable [DecidableEq K]
theorem ZEd {m:List (K × V)} {x:K} (h:∀ p∈m,p.1≠x):lookM m x=none:=by
 unfold lookM
 rw [List.find?_eq_none.2 (fun p hp=>by simpa using h p hp)];rfl
theorem ZDU {m:List (K × V)} (hn:(m.map (·.1)).Nodup) {j:Nat} (h:j<m.length):lookM m m[j].1=some m[j].2:=by
 induction m generalizing j with
 | nil=>simp at h
 | cons p m ih =>
  rw [List.map_cons,List.nodup_cons] at hn
  cases j with
  | zero=>simp [lookM]
  | succ j =>
   have hj:j<m.length:=by simpa using h
   have hne:¬ p.1=m[j].1:=fun e=>hn.1 (e ▸ List.mem_map_of_mem (List.getElem_mem hj))
   have:=ih hn.2 hj
   unfold lookM at this ⊢
   simp only [List.getElem_cons_succ]
   rw [List.find?_cons_of_neg (by simpa using hne)]
   exact this
def ZDr (m:List (K × V)) (x:K) (v:V):List (K × V):=if (lookM m x).isSome then m.map fun p=>if p.1=x then (x,v) else p else m++[(x,v)]
theorem ZEF {m:List (K × V)} {x:K} {v:V} (h:∀ p∈m,p.1≠x):ZDr m x v=m++[(x,v)]:=by
 unfold ZDr;rw [ZEd h];rfl
theorem ZFK {m:List (K × V)} (hn:(m.map (·.1)).Nodup) {v:V} {j:Nat} (h:j<m.length):ZDr m m[j].1 v=m.set j (m[j].1,v):=by
 unfold ZDr
 rw [ZDU hn h]
 simp only [Option.isSome_some,if_true]
 apply List.ext_getElem (by simp)
 intro i h1 h2
 have hi:i<m.length:=by simpa using h1
 rw [List.getElem_map,List.getElem_set]
 by_cases hij:j=i
 ·subst hij;simp
 ·rw [if_neg hij,if_neg]
  intro e
  refine hij ?_
  have h1:(m.map (·.1))[i]'(by simpa using hi)=(m.map (·.1))[j]'(by simpa using h):=by simpa using e
  exact ((List.getElem_inj hn).1 h1).symm
theorem ZDZ (T:MapT P t k e z) (H:KeyT P k kv ok) {m:List (K × V)} (hm:∀ p∈m,ok p.1) (hn:(m.map (·.1)).Nodup) {x:K} (hx:ok x) {w:World} {b:Nat} (hb:w.heap[b]?=some (ZAX (ZAP kv vv m))) (c:Bool) :
  (Instr.lookup t (.map (some b)) (kv x) c).run P w = .ok (if c then .tuple #[((lookM m x).map vv).getD z,.bool (lookM m x).isSome] else ((lookM m x).map vv).getD z) w:=by
 obtain ⟨lx,hlx⟩:=H.lit x hx
 have hg:=MapKept.run_getObj_map (P:=P) (show w.heap[b]?=some (.map _ _) from hb)
 rcases ZHJ (vv:=vv) H hm hx w with ⟨h1,h2⟩|⟨j,hj,h1,h2⟩
 ·rw [ZEd h2]
  simp [Instr.lookup,run_underlying T.under,hg,H.law.check w _ hlx,h1,T.zero,Result.andThen]
 ·subst h1
  rw [ZDU hn hj]
  simp [Instr.lookup,run_underlying T.under,hg,H.law.check w _ hlx,h2,Result.andThen]
theorem ZLq (T:MapT P t k e z) (H:KeyT P k kv ok) {m:List (K × V)} (hm:∀ p∈m,ok p.1) (hn:(m.map (·.1)).Nodup) {x:K} (hx:ok x) (v:V) {w:World} {b:Nat} (hb:w.heap[b]?=some (ZAX (ZAP kv vv m))) :
  (Instr.mapUpdate t (.map (some b)) (kv x) (vv v)).run P w = .ok () { w with heap:=w.heap.setIfInBounds b (ZAX (ZAP kv vv (ZDr m x v))) }:=by
 obtain ⟨lx,hlx⟩:=H.lit x hx
 have hl:(ZAP kv vv m).length=m.length:=by simp [ZAP]
 have hg:=MapKept.run_getObj_map (P:=P) (show w.heap[b]?=some (.map _ _) from hb)
 rcases ZHJ (vv:=vv) H hm hx w with ⟨h1,h2⟩|⟨j,hj,h1,h2⟩
 ·have e1:ZAX (ZAP kv vv (ZDr m x v)) = .map ((ZR 0 (ZAP kv vv m)).toArray.push ⟨kv x,vv v,(ZAP kv vv m).length⟩) ((ZAP kv vv m).length+1):=by
   rw [ZEF h2]
   unfold ZAX
   rw [show ZAP kv vv (m++[(x,v)])=ZAP kv vv m++[(kv x,vv v)] by simp [ZAP],ZCh]
   simp
  rw [e1]
  simp [Instr.mapUpdate,run_underlying T.under,hg,H.law.check w _ hlx,h1,MapKept.run_setObj_map _ (show w.heap[b]?=some (.map _ _) from hb),Result.andThen]
 ·subst h1
  have hj':j<(ZR 0 (ZAP kv vv m)).length:=by rw [Z5,hl];exact hj
  have hat:(ZR 0 (ZAP kv vv m))[j]?=some ⟨kv m[j].1,vv m[j].2,0+j⟩:=by
   rw [List.getElem?_eq_getElem hj',ZAi _ _ _ (by rw [hl];exact hj)]
   simp [ZAP]
  have e1:ZAX (ZAP kv vv (ZDr m m[j].1 v)) = .map ((ZR 0 (ZAP kv vv m)).toArray.modify j fun en=>{ en with key:=kv m[j].1,val:=vv v }) (ZAP kv vv m).length:=by
   rw [ZFK hn hj]
   unfold ZAX
   rw [show ZAP kv vv (m.set j (m[j].1,v))=(ZAP kv vv m).set j (kv m[j].1,vv v) by simp [ZAP,List.map_set],ZC6,List.length_set]
   congr 1
   apply Array.ext'
   rw [Array.toList_modify,ChangeMaps.modify_eq_set _ _ _ _ (by simpa using hat)]
   simp
  rw [e1]
  simp [Instr.mapUpdate,run_underlying T.under,hg,H.law.check w _ hlx,h2,hat,H.law.stays w hlx,MapKept.run_setObj_map _ (show w.heap[b]?=some (.map _ _) from hb),Result.andThen]
omit [DecidableEq K] in
theorem ZGW {m:List (K × V)} {j:Nat} (hj:j<m.length) (f:MapEntry->MapEntry) (x:K) (v:V) (hf:∀ i,f ⟨kv m[j].1,vv m[j].2,i⟩=⟨kv x,vv v,i⟩) :
  ZAX (ZAP kv vv (m.set j (x,v))) = .map ((ZR 0 (ZAP kv vv m)).toArray.modify j f) (ZAP kv vv m).length:=by
 have hl:(ZAP kv vv m).length=m.length:=by simp [ZAP]
 have hj':j<(ZR 0 (ZAP kv vv m)).length:=by rw [Z5,hl];exact hj
 have hat:(ZR 0 (ZAP kv vv m))[j]?=some ⟨kv m[j].1,vv m[j].2,0+j⟩:=by
  rw [List.getElem?_eq_getElem hj',ZAi _ _ _ (by rw [hl];exact hj)]
  simp [ZAP]
 unfold ZAX
 rw [show ZAP kv vv (m.set j (x,v))=(ZAP kv vv m).set j (kv x,vv v) by simp [ZAP,List.map_set],ZC6,List.length_set]
 congr 1
 apply Array.ext'
 rw [Array.toList_modify,ChangeMaps.modify_eq_set _ _ _ _ (by simpa using hat),hf]
 simp
omit [DecidableEq K] in
theorem ZI6 (T:MapT P t k e z) (H:KeyT P k kv ok) {m:List (K × V)} (hm:∀ p∈m,ok p.1) {x:K} (hx:ok x) {w:World} {b:Nat} (hb:w.heap[b]?=some (ZAX (ZAP kv vv m))) :
  (∃ (j:Nat) (h:j<m.length),m[j].1=x/\(Instr.mapEntry t (.map (some b)) (kv x)).run P w = .ok (.tuple #[vv m[j].2,.int .i64 j]) { w with heap:=w.heap.setIfInBounds b (ZAX (ZAP kv vv m)) }) \/
  ((∀ p∈m,p.1≠x)/\∀ zv,vv zv=z->(Instr.mapEntry t (.map (some b)) (kv x)).run P w = .ok (.tuple #[z,.int .i64 m.length]) { w with heap:=w.heap.setIfInBounds b (ZAX (ZAP kv vv (m++[(x,zv)]))) }):=by
 obtain ⟨lx,hlx⟩:=H.lit x hx
 have hl:(ZAP kv vv m).length=m.length:=by simp [ZAP]
 have hg:=MapKept.run_getObj_map (P:=P) (show w.heap[b]?=some (.map _ _) from hb)
 rcases ZHJ (vv:=vv) H hm hx w with ⟨h1,h2⟩|⟨j,hj,h1,h2⟩
 ·refine .inr ⟨h2,fun zv hz=>?_⟩
  have e1:ZAX (ZAP kv vv (m++[(x,zv)])) = .map ((ZR 0 (ZAP kv vv m)).toArray.push ⟨kv x,z,(ZAP kv vv m).length⟩) ((ZAP kv vv m).length+1):=by
   unfold ZAX
   rw [show ZAP kv vv (m++[(x,zv)])=ZAP kv vv m++[(kv x,z)] by simp [ZAP,hz],ZCh]
   simp
  rw [e1]
  simp [Instr.mapEntry,run_underlying T.under,hg,H.law.check w _ hlx,h1,T.zero,MapKept.run_setObj_map _ (show w.heap[b]?=some (.map _ _) from hb),Result.andThen,goInt,hl]
 ·refine .inl ⟨j,hj,h1,?_⟩
  subst h1
  have hj':j<(ZR 0 (ZAP kv vv m)).length:=by rw [Z5,hl];exact hj
  have hat:(ZR 0 (ZAP kv vv m))[j]?=some ⟨kv m[j].1,vv m[j].2,0+j⟩:=by
   rw [List.getElem?_eq_getElem hj',ZAi _ _ _ (by rw [hl];exact hj)]
   simp [ZAP]
  have e1:=ZGW (kv:=kv) (vv:=vv) hj (fun en=>{ en with key:=kv m[j].1 }) m[j].1 m[j].2 (fun _=>rfl)
  have e2:m.set j (m[j].1,m[j].2)=m:=List.set_getElem_self hj
  rw [e2] at e1
  rw [e1]
  simp [Instr.mapEntry,run_underlying T.under,hg,H.law.check w _ hlx,h2,hat,H.law.stays w hlx,MapKept.run_setObj_map _ (show w.heap[b]?=some (.map _ _) from hb),Result.andThen,goInt]
omit [DecidableEq K] in
theorem ZGC {m:List (K × V)} {j:Nat} (hj:j<m.length) (v:V) {w:World} {b:Nat} (hb:w.heap[b]?=some (ZAX (ZAP kv vv m))) :
  (Instr.entryStore t (.map (some b)) (.int .i64 j) (vv v)).run P w = .ok () { w with heap:=w.heap.setIfInBounds b (ZAX (ZAP kv vv (m.set j (m[j].1,v)))) }:=by
 have hl:(ZAP kv vv m).length=m.length:=by simp [ZAP]
 have hg:=MapKept.run_getObj_map (P:=P) (show w.heap[b]?=some (.map _ _) from hb)
 have hf:(ZR 0 (ZAP kv vv m)).findIdx? (fun en=>(en.born:Int) == (j:Int))=some j:=by
  have hlen:(ZR 0 (ZAP kv vv m)).length=m.length:=by rw [Z5,hl]
  have hat:∀ (i:Nat) (h:i<m.length),(ZR 0 (ZAP kv vv m))[i]'(by rw [hlen];exact h)=⟨kv m[i].1,vv m[i].2,i⟩:=fun i h=>by
   rw [ZAi _ _ _ (by rw [hl];exact h)]
   simp [ZAP]
  rw [List.findIdx?_eq_some_iff_getElem]
  refine ⟨by rw [hlen];exact hj,?_,fun i hi=>?_⟩
  ·rw [hat j hj];exact beq_self_eq_true _
  ·rw [hat i (by omega)];show ¬ ((i:Int) == (j:Int))=true;rw [beq_iff_eq];omega
 rw [ZGW hj (fun en=>{ en with val:=vv v }) m[j].1 v (fun _=>rfl)]
 simp [Instr.entryStore,hg,asInt,asIntOf,hf,MapKept.run_setObj_map _ (show w.heap[b]?=some (.map _ _) from hb),Result.andThen]
end
end
end
end Go.Proofs.YtokmalofdapffaaGreat
