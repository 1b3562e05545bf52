/- Part 17: walks by contracts, and plain laws. -/
import Derived.Test.YtekiljakcngcoaaGreatDoorV16
set_option linter.unusedVariables false
set_option linter.unusedSimpArgs false
set_option linter.unusedSectionVars false
set_option maxRecDepth 100000
set_option maxHeartbeats 4000000
namespace Go.Proofs.YtekiljakcngcoaaGreatDoor.M
section
open Go.RowKit
section
variable {P:Program} {ops:Array Oper} {hp:List HObj} {o:Oper} {fr:List Dat} {d:Dat} {Q:ZAW} {rest:List Oper}
variable {dst:Option Tmp} {ty:TypeId} {ps:String} {af:Array Edge} {g:Option (Nat × Bool)}
theorem WL.alloc {T:TypeId} {n:Nat} {agg:Bool} {z:Value} (hz:TyZ P T z) (hs:(dX z).Shape n agg)
  (h:∀ b,WL P ops Q rest (ZA fr dst (dX (.pointer (some ⟨b,0,none⟩)))) (Zh b T n agg (dX z)::hp)):WL P ops Q (⟨dst,.alloc T,ty,ps,af,none⟩::rest) fr hp:=by
 refine WL.of fun P0 B w0 w a hh hf=>?_
 obtain ⟨cs,k1,k0,k2,k3,k4⟩:=hs (fun _=>True) w z rfl
 have hrun:(execOp a.eval ⟨dst,.alloc T,ty,ps,af,none⟩).run P w = .ok (.value (.pointer (some ⟨w.heap.size,0,none⟩))) (w.alloc (.cells cs.toArray T)):=by
  cases hq:P.info? T with
  | none=>have:=hz.out;simp [hq] at this
  | some i =>
   have hz':i.zero=some z:=by have:=hz.out;simpa [hq] using this
   unfold execOp
   simp [Instr.alloc,zeroValue,typeInfo,hq,hz',newVar,newRow,k3]
 refine Zu rfl hrun ?_
 have hx:=Ext.of_alloc w (.cells cs.toArray T)
 have hb:∀ k,(Zh w.heap.size T n agg (dX z)).blk=some k->w.heap.size≤k/\k<(w.alloc (.cells cs.toArray T)).heap.size:=fun k hk=>by
  cases hk
  exact ⟨Nat.le_refl _,by simp⟩
 refine (h w.heap.size).on ⟨hh.h.push hx.b hb ⟨cs,z,Z0 w _,k1,k0,k2,k4,rfl⟩,hh.d⟩ ?_
 exact Fr.put (hf.mono fun d _ hd=>Z6 hx.b (fun k hk=>(hb k hk).1) hd) rfl

theorem ZAK {x:Operand} {t b n:Nat} {T T2:TypeId} {agg:Bool} {d0:Dat} (hT:TyI P T n agg) (hp0:OpD fr (.tmp t) (dX (.pointer (some ⟨b,0,none⟩)))) (hx:OpD fr x d) (hs:d.Shape n agg)
  (h:WL P ops Q rest (ZA fr dst (dX undef)) (Zh b T2 n agg d::hp)):WL P ops Q (⟨dst,.store T (.tmp t) x,ty,ps,af,none⟩::rest) fr (Zh b T2 n agg d0::hp):=by
 refine WL.of fun P0 B w0 w a hh hf=>?_
 obtain ⟨cs,u,c1,c2,c0,c3,c4,c5⟩:=hh.h.ok (Zh b T2 n agg d0) (by simp)
 have h1:=hx.ev hf
 obtain ⟨cs',k1,k0,k2,k3,k4⟩:=hs _ _ _ h1
 have h2:a.eval (.tmp t) = .pointer (some ⟨b,0,none⟩):=hp0.ev hf
 have hr:=ZB1 (u:=a.eval x) hT.size c1 c2 k1 k2 k3
 have hrun:(execOp a.eval ⟨dst,.store T (.tmp t) x,ty,ps,af,none⟩).run P w = .ok .skip (w.setRow b cs'.toArray):=by
  unfold execOp
  simp only [h2,Sem.run_bind,hr,Result.andThen_ok,Sem.run_pure]
 refine wpList_plain rfl fun K hK=>?_
 unfold Oper.wp
 rw [hrun]
 have hgr:w.grownBy (w.setRow b cs'.toArray) (Zh b T2 n agg d0).blk:=ZAM
 have hok:(Zh b T2 n agg d).ok (fun k=>Imm P0 B (Zh b T2 n agg d0::hp) k/\k<w.heap.size) (w.setRow b cs'.toArray) :=
  ⟨cs',a.eval x,setRow_heap w b _ _ _ _ c1,k1,k0,k2,k4,d.grown (d.bound h1) hgr (fun k hk hc=>hc.1.2 _ (by simp) hk)⟩
 exact hK _ _ (h.on ⟨hh.h.write hgr (.inl rfl) hok,hh.d⟩ (Fr.put (hf.mono fun _ _ hd=>ZY (o':=Zh b T2 n agg d) hgr (.inl rfl) hd) (d:=dX undef) rfl))
theorem ZF7 {t b n:Nat} {T:TypeId} {agg:Bool} (hp0:fr[t]?=some (dX (.pointer (some ⟨b,0,none⟩)))) (h:WL P ops Q rest (fr.set t (dP n agg d)) hp):WL P ops Q rest fr (Zh b T n agg d::hp):=by
 refine WL.of fun P0 B w0 w a hh hf=>?_
 obtain ⟨cs,u,c1,c2,c0,c3,c4,c5⟩:=hh.h.ok (Zh b T n agg d) (by simp)
 have hown:=hh.h.own (Zh b T n agg d) (by simp) b rfl
 refine h.on ⟨hh.h.drop,hh.d⟩ ⟨hf.defers,by rw [hf.size,List.length_set],fun t' d' hd'=>?_⟩
 by_cases htt:t=t'
 ·subst htt
  rw [List.getElem?_set] at hd'
  simp only [if_true] at hd'
  split at hd'
  ·cases hd'
   have hv:a.tmps.getD t undef = .pointer (some ⟨b,0,none⟩):=hf.rd t _ hp0
   rw [hv]
   refine ⟨b,0,u,rfl,ZAp c1 c2 c0 c3 c4 ⟨.inr hown.1,fun o' ho' hk=>?_⟩,d.weak c5 Imm.sub⟩
   exact (List.pairwise_cons.1 hh.h.apart).1 o' ho' b rfl hk
  ·cases hd'
 ·rw [List.getElem?_set_ne htt] at hd'
  exact d'.weak (hf.rd t' d' hd') Imm.sub
theorem ZG {x:Operand} {t b n:Nat} {T T2:TypeId} {agg:Bool} {d0:Dat} (hT:TyI P T n agg) (hp0:fr[t]?=some (dX (.pointer (some ⟨b,0,none⟩)))) (hx:OpD fr x d) (hs:d.Shape n agg)
  (h:WL P ops Q rest (fr.set t (dP n agg d)) hp):WL P ops Q (⟨none,.store T (.tmp t) x,ty,ps,af,none⟩::rest) fr (Zh b T2 n agg d0::hp) :=
 ZAK hT (OpD.t hp0) hx hs (ZF7 hp0 h)
end
end
section
open Go.RowKit

set_option maxHeartbeats 4000000 in
theorem ZOI (a b:List Vx):Fn Tryz.prog 87 [dS ZI a,dS ZI b,ZMm Tryz.prog (fun x:Vx × Vx=>[dS RV x.1,dS RV x.2]) (fun x=>dI (ZA8 x.1 x.2))] (dI (ZA7 a b)):=by
 (refine ZH Tryz.func87 rfl rfl ?_;simp only [Tryz.ntmps87,List.length_cons,List.length_nil,Nat.reduceAdd,Nat.reduceSub,List.replicate_succ,List.replicate_zero,List.cons_append,List.nil_append])
 (repeat' (first|(apply ZS;(focus (apply SYG.yes;(exact Zc rfl);(first|(apply SY.move <;> (exact oD))|(apply SY.assign <;> (exact oD))|(apply SY.load;(exact tD);(exact OpD.t rfl)))));dsimp only [ZA,z0,z1])|refine WL.nil ?_|refine ZC fun Kx hK=>?_|(refine hK _ _ ?_;clear hK)|refine WC.region ?_|(apply ZS;(focus (apply SYG.yes;(exact Zc rfl);((first|(apply SY.len;(exact oD);(exact nD);(exact uD))|fail);all_goals infer_instance)));dsimp only [ZA,z0,z1])|refine WC.block ?_))
 (first|refine Ze (t:=0) rfl ZFf fun hl0=>?_|refine Ze (t:=0) rfl ZFe fun hl0=>?_);simp only [maxLen] at hl0
 (first|refine Ze (t:=1) rfl ZFf fun hl1=>?_|refine Ze (t:=1) rfl ZFe fun hl1=>?_);simp only [maxLen] at hl1
 (refine WC.loopU (X:=Nat) (fun k=>[(13,dI (k:Int)),(6,dA),(7,dA),(8,dA),(9,dA),(10,dA),(14,dA),(15,dA),(16,dA),(17,dA),(18,dA),(19,dA),(20,dA),(21,dA),(22,dA),(23,dA),(24,dA),(25,dA),(26,dA),(27,dA),(28,dA),(29,dA),(30,dA),(31,dA),(32,dA),(33,dA)]) (fun k=>[]) (fun k=>a.length-k) (fun k=>k≤a.length/\k≤b.length/\ZA7 a b=ZA7 (a.drop k) (b.drop k)) 0 ?start ?frame0 ?objs0 ?round)
 case start=>exact ⟨Nat.zero_le _,Nat.zero_le _,rfl⟩
 case frame0=>((try dsimp only [Za,z0,z1]);repeat (first|exact LeF.nil|refine ZF (k:=?_)))
 case objs0=>rfl
 case round =>
  rintro k ⟨h1,h2,h3⟩
  dsimp only [Za,z0,z1]
  ((repeat' (first|(apply ZS;(focus (apply SYG.yes;(exact Zc rfl);(first|(apply SY.move <;> (exact oD))|(apply SY.assign <;> (exact oD))|(apply SY.load;(exact tD);(exact OpD.t rfl)))));dsimp only [ZA,z0,z1])|refine WL.nil ?_|refine ZC fun Kx hK=>?_|(refine hK _ _ ?_;clear hK)|(refine Kont.skip ?_;clear hK)|refine WC.region ?_|(apply WL.alloc;(exact tzV);(first|exact ZN rfl|exact ZW);(intro _;dsimp only [ZA,z0,z1]))|(apply ZG;(exact tD);rfl;(exact oD);(exact hD);dsimp only [ZA,z0,z1])|(apply ZS;(focus (apply SYG.yes;(exact Zc rfl);((first|(apply ZBd (x:=((a[k],b[k]):Vx × Vx));(exact OpD.t rfl);(exact aD))|((first|apply SY.move|apply SY.assign|apply SY.lss|apply SY.geq|apply SY.neq) <;> (exact oD))|((first|apply SY.add) <;> first|exact oD|omega)|(apply SY.len;(exact oD);(exact nD);(exact uD))|(apply Zi;(exact eD);(exact oD);(exact oD);exact kD)|fail);all_goals infer_instance)));dsimp only [ZA,z0,z1])|(apply ZE;(exact oD);(all_goals intro h);(all_goals try (exfalso;first|omega|contradiction)))|(apply WC.condN;(exact oD);(all_goals intro h);(all_goals try (exfalso;first|omega|contradiction)))|refine WC.skip ?_|refine WC.ret ?_|refine WC.exit ?_|refine WC.block ?_|refine ThenD.n ?_|refine ThenD.r ?_|refine InBlockD.r ?_));all_goals (first|((repeat clear hK);(repeat clear Kx))))
  all_goals first
   | ((refine ⟨k+1,?_,by first|omega|(simp only;omega),rfl,?_⟩;rotate_left;((try dsimp only [Za,z0,z1]);repeat (first|exact LeF.nil|refine ZF (k:=?_)));(try dsimp only));exact ⟨by omega,by omega,h3.trans (ZGH (by omega) (by omega) (by assumption))⟩)
   | ((refine ⟨trivial,_,rfl,?_⟩;refine FinD.i ?_);rw [h3,ZEV];repeat' split) <;> first|rfl|contradiction|omega
theorem ZJN (a b:List Vx):Fn Tryz.prog 61 [dS ZI a,dS ZI b] (dI (ZA7 a b)):=by
 (refine ZH Tryz.func61 rfl rfl ?_;simp only [Tryz.ntmps61,List.length_cons,List.length_nil,Nat.reduceAdd,Nat.reduceSub,List.replicate_succ,List.replicate_zero,List.cons_append,List.nil_append])
 ((repeat' (first|(apply ZS;(focus (apply SYG.yes;(exact Zc rfl);(first|(apply SY.move <;> (exact oD))|(apply SY.assign <;> (exact oD)))));dsimp only [ZA,z0,z1])|refine WL.nil ?_|refine ZC fun Kx hK=>?_|(refine hK _ _ ?_;clear hK)|refine WC.region ?_|(apply ZS;(focus (apply SYG.yes;(exact Zc rfl);((first|(apply SY.call (ZOI _ _) Tryz.call87;(exact aD))|fail);all_goals infer_instance)));dsimp only [ZA,z0,z1])|refine WC.ret ?_));all_goals (first|((repeat clear hK);(repeat clear Kx))))
 all_goals ((refine ⟨trivial,_,rfl,?_⟩;refine FinD.i ?_);try rfl)
theorem ZUh {I:Nat->Prop} {w:World} {u v:Value} {a b:List Vx} (hu:ZI I w u a) (hv:ZI I w v b):Calls Tryz.prog 61 #[u,v] w fun e w'=>e = .returned (.int .i64 (ZA7 a b))/\∃ q os',w'=Go.Sort.grow (w.drewN q) os':=by
 have:=(ZJN a b).out I w [u,v] rfl (fun i d hd=>by
  match i with
  | 0=>cases hd;exact hu
  | 1=>cases hd;exact hv
  | i+2=>simp at hd)
 exact this.mono fun e w' ⟨v,h1,h2,h3⟩=>⟨by rw [h1];exact congrArg _ h3,h2.grow⟩
end
end Go.Proofs.YtekiljakcngcoaaGreatDoor.M
namespace Go.Proofs
section
open Go.Shelf
def Tryz.sortS_ren:Go.Shelf.Ren:=⟨fun|6=>70|15=>86|14=>93|28=>114|29=>115|20=>118|21=>119|22=>120|23=>121|24=>122|25=>123|26=>124|27=>125|46=>137|47=>132|48=>133|49=>138|50=>139|57=>145|n=>n,fun|22=>22|24=>28|25=>45|3=>3|39=>137|0=>0|53=>159|55=>161|4=>4|46=>153|45=>152|50=>47|5=>5|9=>9|66=>173|70=>177|76=>184|77=>185|n=>n,fun|n=>n⟩
theorem Tryz.sortS:Go.Proofs.SlLaysF.n6 Tryz.prog Tryz.sortS_ren:={
 mixed:=by kernel_rfl
 f6:=⟨Tryz.f70.name,by decide,Tryz.func70.trans (congrArg some (by kernel_rfl))⟩
 f14:=⟨Tryz.f93.name,by decide,Tryz.func93.trans (congrArg some (by kernel_rfl))⟩
 f15:=Tryz.func86.trans (congrArg some (by kernel_rfl))
 f20:=⟨Tryz.f118.name,by decide,Tryz.func118.trans (congrArg some (by kernel_rfl))⟩
 f21:=⟨Tryz.f119.name,by decide,Tryz.func119.trans (congrArg some (by kernel_rfl))⟩
 f22:=⟨Tryz.f120.name,by decide,Tryz.func120.trans (congrArg some (by kernel_rfl))⟩
 f23:=⟨Tryz.f121.name,by decide,Tryz.func121.trans (congrArg some (by kernel_rfl))⟩
 f24:=⟨Tryz.f122.name,by decide,Tryz.func122.trans (congrArg some (by kernel_rfl))⟩
 f25:=⟨Tryz.f123.name,by decide,Tryz.func123.trans (congrArg some (by kernel_rfl))⟩
 f26:=⟨Tryz.f124.name,by decide,Tryz.func124.trans (congrArg some (by kernel_rfl))⟩
 f27:=⟨Tryz.f125.name,by decide,Tryz.func125.trans (congrArg some (by kernel_rfl))⟩
 f28:=Tryz.func114.trans (congrArg some (by kernel_rfl))
 f29:=Tryz.func115.trans (congrArg some (by kernel_rfl))
 f46:=⟨Tryz.f137.name,by decide,Tryz.func137.trans (congrArg some (by kernel_rfl))⟩
 f47:=Tryz.func132.trans (congrArg some (by kernel_rfl))
 f48:=Tryz.func133.trans (congrArg some (by kernel_rfl))
 f49:=⟨Tryz.f138.name,by decide,Tryz.func138.trans (congrArg some (by kernel_rfl))⟩
 f50:=⟨Tryz.f139.name,by decide,Tryz.func139.trans (congrArg some (by kernel_rfl))⟩
 f57:=⟨Tryz.f145.name,by decide,Tryz.func145.trans (congrArg some (by kernel_rfl))⟩
 t0:=Tryz.underlying0
 a0:=Tryz.isAgg0
 z0:=Tryz.sizeOf0
 v0:=Tryz.zeroValue0
 t3:=Tryz.underlying3
 a3:=Tryz.isAgg3
 z3:=Tryz.sizeOf3
 v3:=Tryz.zeroValue3
 t4:=Tryz.underlying4
 a4:=Tryz.isAgg4
 z4:=Tryz.sizeOf4
 v4:=Tryz.zeroValue4
 t5:=Tryz.underlying5
 a5:=Tryz.isAgg5
 z5:=Tryz.sizeOf5
 v5:=Tryz.zeroValue5
 t9:=Tryz.underlying9
 a9:=Tryz.isAgg9
 z9:=Tryz.sizeOf9
 v9:=Tryz.zeroValue9
 t22:=Tryz.underlying22
 a22:=Tryz.isAgg22
 z22:=Tryz.sizeOf22
 v22:=Tryz.zeroValue22
 a24:=Tryz.isAgg28
 z24:=Tryz.sizeOf28
 t25:=Tryz.underlying45
 a25:=Tryz.isAgg45
 z25:=Tryz.sizeOf45
 v25:=Tryz.zeroValue45
 t39:=Tryz.underlying137
 a39:=Tryz.isAgg137
 z39:=Tryz.sizeOf137
 v39:=Tryz.zeroValue137
 t45:=Tryz.underlying152
 a45:=Tryz.isAgg152
 z45:=Tryz.sizeOf152
 v45:=Tryz.zeroValue152
 t46:=Tryz.underlying153
 a46:=Tryz.isAgg153
 z46:=Tryz.sizeOf153
 v46:=Tryz.zeroValue153
 t50:=Tryz.underlying47
 a50:=Tryz.isAgg47
 z50:=Tryz.sizeOf47
 v50:=Tryz.zeroValue47
 t53:=Tryz.underlying159
 a53:=Tryz.isAgg159
 z53:=Tryz.sizeOf159
 v53:=Tryz.zeroValue159
 t55:=Tryz.underlying161
 a55:=Tryz.isAgg161
 z55:=Tryz.sizeOf161
 v55:=Tryz.zeroValue161
 t66:=Tryz.underlying173
 a66:=Tryz.isAgg173
 z66:=Tryz.sizeOf173
 v66:=Tryz.zeroValue173
 t70:=Tryz.underlying177
 a70:=Tryz.isAgg177
 z70:=Tryz.sizeOf177
 v70:=Tryz.zeroValue177
 t76:=Tryz.underlying184
 a76:=Tryz.isAgg184
 z76:=Tryz.sizeOf184
 v76:=Tryz.zeroValue184
 t77:=Tryz.underlying185
 a77:=Tryz.isAgg185
 z77:=Tryz.sizeOf185
 v77:=Tryz.zeroValue185 }
end
end Go.Proofs
namespace Go.Proofs.YtekiljakcngcoaaGreatDoor
section
open Go.RowKit Go.Sort Go.Shelf
section
variable {w:World} {g n cap:Nat} {os:Array Obj} {cur:Array Value} {e:TypeId} {fz:Nat × Nat} {α:Type} [Inhabited α] {enc:α->Value}
theorem ZGT (d:Array α):w.grownBy (sortWorld enc w g 0 n d os) (some g):=by
 refine ⟨rfl,rfl,rfl,by simp [sortWorld],fun k hk hne=>?_⟩
 unfold sortWorld
 rw [heap_grow_old _ _ (by simpa using hk)]
 have:g≠k:=fun e=>hne (by rw [e])
 simp [putRow,mapBlock,Sort.ahead,Array.getElem?_modify,this]
theorem ZJe (d:Array α) (hb:w.heap[g]?=some (.cells cur e fz)) :
  (sortWorld enc w g 0 n d os).heap[g]?=some (.cells (putCells enc 0 d cur) e fz):=by
 have hg:g<w.heap.size:=(Array.getElem?_eq_some_iff.1 hb).1
 unfold sortWorld
 rw [heap_grow_old _ _ (by simpa using hg)]
 simp [putRow,mapBlock,Sort.ahead,Array.getElem?_modify,hb,onCells]
theorem ZH8 {d:Array α} (hb:w.heap[g]?=some (.cells cur e (0,0))) (ht:cur.toList.take d.size=d.toList.map enc):Holds enc w g 0 d:=by
 intro j hj
 refine ⟨?_,by simp [World.frozen?,hb]⟩
 have h1:(cur.toList.take d.size)[j]?=(d.toList.map enc)[j]?:=by rw [ht]
 rw [List.getElem?_take_of_lt hj] at h1
 simp only [World.cell?,hb,Nat.zero_add]
 simp only [Option.isSome_none,Bool.false_eq_true,if_false]
 rw [<- Array.getElem?_toList,h1,getElem!_pos _ j hj]
 simp [hj]
theorem ZG0 (cur:Array Value) (d:Array α) (h:d.size≤cur.size):(putCells enc 0 d cur).toList.take d.size=d.toList.map enc:=by
 apply List.ext_getElem?
 intro j
 by_cases hj:j<d.size
 ·rw [List.getElem?_take_of_lt hj,Array.getElem?_toList]
  simp [putCells,hj,show j<cur.size by omega]
 ·rw [List.getElem?_take_eq_none (by omega),List.getElem?_eq_none (by simp;omega)]
end
theorem ZGu {a b c:List Vx} (h:ZA7 a b<0) (k:ZA7 b c<0):ZA7 a c<0:=by
 obtain ⟨h1,h2⟩:=ZDc a b c (by omega) (by omega)
 rcases Int.lt_or_eq_of_le h1 with h3|h3
 ·exact h3
 ·have:=h2 h3;omega
theorem swoL {α:Type} (f:α->List Vx):SWO (ltOf fun x y:α=>ZA7 (f x) (f y)) where
 irrefl x:=by simp [ltOf,ZDy.2 (rfl:f x=f x)]
 trans x y z h h':=by
  simp only [ltOf,decide_eq_true_eq] at *
  exact ZGu h h'
 ntrans x y z h h':=by
  simp only [ltOf,decide_eq_false_iff_not] at *
  have e1:=ZDb (f x) (f y)
  have e2:=ZDb (f y) (f z)
  have e3:=ZDb (f x) (f z)
  have:=(ZDc (f z) (f y) (f x) (by omega) (by omega)).1
  omega
section
variable {ops:Array Oper} {hp:List HObj} {fr:List Dat} {Q:ZAW} {rest:List Oper} {dst:Option Tmp} {ty:TypeId} {ps:String} {af:Array Edge}
theorem ZLN {x:Operand} {v:Value} {e:TypeId} {xs:List (List Vx)} {ats:Array TypeId} (hx:OpD fr x (dX v)) (hlen:xs.length<4611686018427387904)
  (h:∀ ys:List (List Vx),ys.Perm xs->ys.Pairwise (fun a b=>¬ ZA7 b a<0)->WL Tryz.prog ops Q rest (ZA fr dst dA) (Zr v e ZI ys::hp)) :
  WL Tryz.prog ops Q (⟨dst,.call { callee:=.value (.func 70),args:=#[x,.func 61],argTypes:=ats },ty,ps,af,none⟩::rest) fr (Zr v e ZI xs::hp):=by
 refine WL.of fun P0 B w0 w a hh hf=>?_
 have hok:=hh.ok (Zr v e ZI xs) (by simp)
 obtain ⟨us,h1,h2,h3⟩:=hok
 have hev:a.eval x=v:=hx.ev hf
 obtain ⟨hfl,hv⟩:=h2
 have hrun:(execOp a.eval ⟨dst,.call { callee:=.value (.func 70),args:=#[x,.func 61],argTypes:=ats },ty,ps,af,none⟩).run Tryz.prog w = .ok (.enter 70 #[v,.func (.func 61) #[] #[]]) w:=by
  unfold execOp
  simp only [resolve]
  have he:(#[x,Operand.func 61]:Array Operand).map a.eval=#[v,.func (.func 61) #[] #[]]:=by simp [hev];rfl
  rw [he]
  simp [Act.eval,Deferred.ofValue,invoke,Tryz.call70]
 by_cases hne:xs=[]
 ·subst hne
  have hv0:∃ p cap,v = .slice p 0 cap:=by
   rcases hv with ⟨hv,_⟩|⟨g,cap,cur,hv,_⟩
   ·exact ⟨_,_,hv⟩
   ·exact ⟨_,_,hv⟩
  obtain ⟨p,cap,hv0⟩:=hv0
  have hcon:=AnyF.slices_SortFunc_none (P:=Tryz.prog) (ρ:=Tryz.sortS_ren) { Tryz.sortS with } p cap (.func (.func 61) #[] #[]) w
  change Calls Tryz.prog 70 _ _ _ at hcon
  refine wpList_plain rfl fun K hK=>?_
  unfold Oper.wp
  rw [hrun,hv0]
  refine hcon.mono fun e' w' ⟨he,hw'⟩=>?_
  subst he
  subst hw'
  exact hK _ _ ((h [] (List.Perm.refl _) List.Pairwise.nil).on hh (hf.put (d:=dA) trivial))
 have hpos:0<xs.length:=List.length_pos_iff.2 hne
 rcases hv with ⟨_,hz⟩|⟨g,cap,cur,hv,hB,hg,hc1,hc2,hc3,hc4⟩
 ·omega
 have hgb:g<w.heap.size:=(Array.getElem?_eq_some_iff.1 hg).1
 let J:Nat->Prop:=fun b=>Imm P0 B (Zr v e ZI xs::hp) b/\v.ownBlock≠some b
 let α:={p:Value × List Vx // p.1.oneCell'=true/\ZI J w p.1 p.2}
 let at0:Fin xs.length->α:=fun k=>⟨(us[k.1]'(by omega),xs[k.1]),h3 k.1 (by omega) k.2⟩
 haveI:Inhabited α:=⟨at0 ⟨0,hpos⟩⟩
 let enc:α->Value:=fun p=>p.1.1
 let d:Array α:=(List.ofFn at0).toArray
 have hds:d.size=xs.length:=by simp [d]
 have hdu:d.toList.map enc=us:=by
  apply List.ext_getElem (by simp [d,h1])
  intro k a b
  simp [d,enc,at0]
 have hdx:d.toList.map (fun p=>p.1.2)=xs:=by
  apply List.ext_getElem (by simp [d])
  intro k a b
  simp [d,at0]
 have hown:v.ownBlock=some g:=by rw [hv];rfl
 have hH:Holds enc w g 0 d:=ZH8 hg (by rw [hds,hdu];simpa using hc4)
 have hgr:∀ (d':Array α) (n:Nat) (os:Array Obj),w.grownBy (sortWorld enc w g 0 n d' os) (Zr v e ZI xs).blk:=fun d' n os=>by
  show w.grownBy _ v.ownBlock
  rw [hown];exact ZGT d'
 have hmove:∀ (p:α) (d':Array α) (n:Nat) (os:Array Obj),ZI (fun b=>J b/\b<w.heap.size) (sortWorld enc w g 0 n d' os) p.1.1 p.1.2:=fun p d' n os =>
  Good.move (Good.bound p.2.2) fun k hk hlt=>(hgr d' n os).block k hlt fun he=>hk.1.2 he.symm
 have hcon:=Any.slices_SortFunc Tryz.sortS enc (fun p=>p.2.1) (fun p q=>ZA7 p.1.2 q.1.2) (swoL fun p:α=>p.1.2) 61 #[] g 0 cap d w Tryz.call61
  (fun m os dk _ p q=>M.ZUh (hmove p dk m os) (hmove q dk m os)) hH hgb (by rw [hds];exact hlen)
 change Calls Tryz.prog 70 _ _ _ at hcon
 refine wpList_plain rfl fun K hK=>?_
 unfold Oper.wp
 rw [hrun]
 have hva:v = .slice (some ⟨g,0,none⟩) d.size cap:=by rw [hds];exact hv
 rw [<- hva] at hcon
 refine hcon.mono fun e' w' ⟨he,d',n,os,hp1,hs,hw'⟩=>?_
 subst he
 subst hw'
 obtain ⟨q1,_,q3⟩:=hp1
 have hperm:d'.toList.Perm d.toList:=by
  have e1:d'.extract 0 d.size=d':=by rw [<- q1];simp
  have e2:d.extract 0 d.size=d:=by simp
  rw [e1,e2] at q3
  exact q3
 have hys:(d'.toList.map fun p=>p.1.2).Perm xs:=by
  have:=hperm.map (fun p:α=>p.1.2)
  rwa [hdx] at this
 have hsort:(d'.toList.map fun p=>p.1.2).Pairwise (fun a b=>¬ ZA7 b a<0):=by
  rw [List.pairwise_map,List.pairwise_iff_getElem]
  intro i j hi hj hij
  have hi':i<d'.size:=by simpa using hi
  have hj':j<d'.size:=by simpa using hj
  have:=hs i j (Nat.zero_le _) hij (by omega)
  rw [getElem!_pos d' i hi',getElem!_pos d' j hj'] at this
  simpa [ltOf] using this
 have hlen':(d'.toList.map fun p=>p.1.2).length=xs.length:=by simp;omega
 have hok:(Zr v e ZI (d'.toList.map fun p=>p.1.2)).ok (fun k=>Imm P0 B (Zr v e ZI xs::hp) k/\k<w.heap.size) (sortWorld enc w g 0 n d' os):=by
  refine ⟨d'.toList.map enc,by simp,⟨by simp,.inr ⟨g,cap,putCells enc 0 d' cur,?_,hB,ZJe _ hg,by omega,hc2,by simp [putCells,hc3],?_⟩⟩,fun k a b=>?_⟩
  ·rw [hlen'];exact hv
  ·rw [hlen',Nat.mul_one,<- hds,<- q1]
   exact ZG0 _ _ (by rw [q1,hds,hc3];omega)
  ·have hk:k<d'.toList.length:=by simpa using a
   refine ⟨by rw [List.getElem_map];exact d'.toList[k].2.1,?_⟩
   rw [List.getElem_map,List.getElem_map]
   exact Good.weak (hmove d'.toList[k] d' n os) fun b hb=>⟨⟨hb.1.1,hb.2⟩,hb.1.2⟩
 exact hK _ _ ((h _ hys hsort).on (hh.write (hgr d' n os) (.inl rfl) hok) (Fr.put (hf.mono fun _ _ hd=>ZY (o':=Zr v e ZI (d'.toList.map fun p=>p.1.2)) (hgr d' n os) (.inl rfl) hd) (d:=dA) trivial))
end
end
section
open Go.RowKit
section
variable {P:Program} {ops:Array Oper} {hp:List HObj} {o:Oper} {fr:List Dat} {d:Dat} {Q:ZAW} {rest:List Oper}
variable {dst:Option Tmp} {ty:TypeId} {ps:String} {af:Array Edge} {g:Option (Nat × Bool)} {e e' t T:TypeId} {bytes b cap N:Nat} {z:Value} {ag:Bool} {α:Type} {R:Rel α} {_gR:Good R} {xs:List α} {v:Value}
abbrev hQ (b N cap:Nat) (e:TypeId) (R:Rel α) [Good R] (xs:List α):HObj:=Zr (.slice (some ⟨b,0,none⟩) N cap) e R xs
theorem ZLF {c:Code} {v:Value} (hne:0<xs.length) (h:∀ b cap,v = .slice (some ⟨b,0,none⟩) xs.length cap->xs.length≤cap->cap≤maxLen->WC P Q c fr (Zr v e R xs::hp)):WC P Q c fr (Zr v e R xs::hp):=WC.of fun P0 B w0 w a hh hf=>by
 obtain ⟨us,h1,⟨h2,h3⟩,h4⟩:=hh.ok (Zr v e R xs) (by simp)
 rcases h3 with ⟨_,hz⟩|⟨g,cap,cur,hv,hB,hg,hc1,hc2,hc3,hc4⟩
 ·omega
 ·exact (h g cap hv hc1 hc2).on hh hf
theorem ZIx {x i:Operand} {n m off k:Nat} {j:Int} (E:ElT P t e 1 z bytes ag) (hx:OpD fr x (dX (.slice (some ⟨b,off,none⟩) n m))) (hi:OpD fr i (dI j)) (hj:j=(k:Int)) (hk:k<n) :
  SY P ops hp ⟨dst,.indexAddr t x i,ty,ps,af,g⟩ fr (dX (.pointer (some ⟨b,off+k,none⟩))):=SY.val fun {I w a} ho=>by
 have h1:a.eval x=_:=hx.get (by simp [Op.operands]) ho
 have h2:a.eval i=_:=hi.get (by simp [Op.operands]) ho
 refine ⟨.pointer (some ⟨b,off+k*1,none⟩),?_,by rw [Nat.mul_one];rfl⟩
 unfold execOp
 simp only [h1,h2,hj,Sem.run_bind,ZBL (w:=w) E b off n m k .i64 hk,Result.andThen_ok,Sem.run_pure]
theorem ZFl {x:Operand} {j k:Nat} (T':TyI P T 1 false) (hx:OpD fr x (dX (.pointer (some ⟨b,j,none⟩)))) (hm:hQ b N cap e' R xs∈hp) (hj:j=k) (hk:k<xs.length) :
  SY P ops hp ⟨dst,.load T x,ty,ps,af,g⟩ fr (dS R xs[k]):=by
 subst hj
 exact ZQN T' hx hm hk
theorem ZNe {p:Tmp} {x:Operand} {j k:Nat} {y:α} (T':TyI P T 1 false) (hp0:OpD fr (.tmp p) (dX (.pointer (some ⟨b,j,none⟩)))) (hx:OpD fr x (dS R y)) (hs:(dS R y).Shape 1 false) (hj:j=k) (hk:k<xs.length)
  (h:WL P ops Q rest (ZA fr dst dA) (hQ b N cap e R (xs.set k y)::hp)):WL P ops Q (⟨dst,.store T (.tmp p) x,ty,ps,af,none⟩::rest) fr (hQ b N cap e R xs::hp):=by
 subst hj
 exact ZI4 T' hp0 hx hs hk h
theorem SY.fromQ {x y:Operand} {off n m l:Nat} {j:Int} (E:ElT P t e 1 z bytes ag) (hx:OpD fr x (dX (.slice (some ⟨b,off,none⟩) n m))) (hy:OpD fr y (dI j)) (hj:j=(l:Int)) (hl:l<n) (hm:n≤m) :
  SY P ops hp ⟨dst,.slice t x (some y) none none,ty,ps,af,g⟩ fr (dX (.slice (some ⟨b,off+l,none⟩) (n-l) (m-l))):=SY.val fun {I w a} ho=>by
 have h1:a.eval x=_:=hx.get (by simp [Op.operands]) ho
 have h2:a.eval y=_:=hy.get (by simp [Op.operands]) ho
 refine ⟨_,?_,rfl⟩
 have hr:=ZDN (w:=w) (ad:=some ⟨b,off,none⟩) (len:=n) (cap:=m) (lo:=some (.int .i64 (l:Int))) (hi:=none) (l:=l) (h:=n) E (.inr ⟨_,rfl⟩) (.inl ⟨rfl,rfl⟩) (by omega) hm
 rw [if_neg (by omega)] at hr
 unfold execOp
 simp only [h1,h2,hj,Option.map_none,Option.map_some,Sem.run_bind,hr,Result.andThen_ok,Sem.run_pure]
 simp [Addr.add_lit]
theorem SY.uptoQ {x y:Operand} {off n m l:Nat} {j:Int} (E:ElT P t e 1 z bytes ag) (hx:OpD fr x (dX (.slice (some ⟨b,off,none⟩) n m))) (hy:OpD fr y (dI j)) (hj:j=(l:Int)) (hl:l≤n) (hm:n≤m) (h0:0<m) :
  SY P ops hp ⟨dst,.slice t x none (some y) none,ty,ps,af,g⟩ fr (dX (.slice (some ⟨b,off,none⟩) l m)):=SY.val fun {I w a} ho=>by
 have h1:a.eval x=_:=hx.get (by simp [Op.operands]) ho
 have h2:a.eval y=_:=hy.get (by simp [Op.operands]) ho
 refine ⟨_,?_,rfl⟩
 have hr:=ZDN (w:=w) (ad:=some ⟨b,off,none⟩) (len:=n) (cap:=m) (lo:=none) (hi:=some (.int .i64 (l:Int))) (l:=0) (h:=l) E (.inl ⟨rfl,rfl⟩) (.inr ⟨_,rfl⟩) (by omega) (by omega)
 rw [if_neg (by omega)] at hr
 unfold execOp
 simp only [h1,h2,hj,Option.map_none,Option.map_some,Sem.run_bind,hr,Result.andThen_ok,Sem.run_pure]
 simp [Addr.add_lit]
theorem ZNV {k:Nat} (hk:k≤xs.length) (h:WL P ops Q rest fr (hQ b k cap e R (xs.take k)::hp)):WL P ops Q rest fr (hQ b N cap e R xs::hp):=WL.of fun P0 B w0 w a hh hf=>by
 obtain ⟨us,h1,⟨h2,h3⟩,h4⟩:=(hQ b N cap e R xs).bound (hh.ok (hQ b N cap e R xs) (by simp))
 have hgr:w.grownBy w (hQ b N cap e R xs).blk:=⟨rfl,rfl,rfl,Nat.le_refl _,fun _ _ _=>rfl⟩
 have hok:(hQ b k cap e R (xs.take k)).ok (fun j=>Imm P0 B (hQ b N cap e R xs::hp) j/\j<w.heap.size) w:=by
  rcases h3 with ⟨hc,_⟩|⟨g,cap',cur,hv,hB,hg,hc1,hc2,hc3,hc4⟩
  ·cases hc
  ·cases hv
   refine ⟨us.take k,by simp [h1],⟨by simp;omega,.inr ⟨_,_,cur,?_,hB,hg,by simp;omega,hc2,hc3,?_⟩⟩,fun i a1 a2=>?_⟩
   ·simp [Nat.min_eq_left hk]
   ·rw [List.length_take,Nat.min_eq_left hk,Nat.mul_one]
    rw [Nat.mul_one] at hc4
    rw [<- hc4,List.take_take,Nat.min_eq_left hk]
   ·rw [List.getElem_take,List.getElem_take]
    rw [List.length_take] at a1 a2
    exact h4 i (by omega) (by omega)
 exact h.on (hh.write hgr (.inl rfl) hok) (hf.mono fun _ _ hd=>ZY (o':=hQ b k cap e R (xs.take k)) hgr (.inl rfl) hd)
theorem ZNf {l:Nat} {x y:Operand} {j:Int} (E:ElT P t e 1 z bytes ag) (hx:OpD fr x (dX (.slice (some ⟨b,0,none⟩) N cap))) (hy:OpD fr y (dI j)) (hj:j=(l:Int)) (hl:l≤N) (hm:N≤cap) (h0:0<cap) (hk:l≤xs.length)
  (h:WL P ops Q rest (ZA fr dst (dX (.slice (some ⟨b,0,none⟩) l cap))) (hQ b l cap e R (xs.take l)::hp)):WL P ops Q (⟨dst,.slice t x none (some y) none,ty,ps,af,none⟩::rest) fr (hQ b N cap e R xs::hp) :=
 WL.op rfl (SY.uptoQ E hx hy hj hl hm h0) (ZNV hk h)
theorem ZNU {x:Operand} {off n m k:Nat} {x0:α} (hu:P.underlying t=some (.slice e)) (hz:∀ w,(zeroValue e).run P w = .ok z w) (hz1:z.oneCell'=true) (hz0:∀ I w,R I w z x0) (hx:OpD fr x (dX (.slice (some ⟨b,off,none⟩) n m))) (hj:off=k) (hn:0<n) (hk:k+n=xs.length)
  (h:WL P ops Q rest (ZA fr dst dA) (hQ b N cap e R (xs.take k++List.replicate n x0)::hp)):WL P ops Q (⟨dst,.call { callee:=.builtin .clear,args:=#[x],argTypes:=#[t] },ty,ps,af,none⟩::rest) fr (hQ b N cap e R xs::hp):=by
 refine WL.of fun P0 B w0 w a hh hf=>?_
 subst hj
 have hok:=(hQ b N cap e R xs).bound (hh.ok (hQ b N cap e R xs) (by simp))
 obtain ⟨us,h1,⟨h2,h3⟩,h4⟩:=hok
 rcases h3 with ⟨hc,_⟩|⟨g,cap',cur,hv,hB,hg,hc1,hc2,hc3,hc4⟩
 ·cases hc
 cases hv
 rw [Nat.mul_one] at hc3 hc4
 have hval:a.eval x=_:=hx.ev hf
 have hcl:off+n≤cur.toList.length:=by simp;omega
 have hzc:(Builtin.zeroCells #[z] n).toList=List.replicate n z:=by
  simp only [Builtin.zeroCells]
  apply List.ext_getElem
  ·simp
  ·intro i h1 h2
   simp [Nat.mod_one]
 have hcell:∀ j<n,w.cell? ⟨b,off+j,none⟩≠none/\w.frozen? ⟨b,off+j,none⟩=false:=fun j hj=>by
  have:off+j<cur.size:=by omega
  exact ⟨by simp [World.cell?,hg,this],by simp [World.frozen?,hg]⟩
 have hst:=run_storeCells_cells (P:=P) b off (List.replicate n z) 0 w (fun j hj=>by
   rw [List.length_replicate] at hj
   rw [Nat.add_zero]
   exact Option.isSome_iff_ne_none.2 (hcell j hj).1) (fun j hj=>by
   rw [List.length_replicate] at hj
   rw [Nat.add_zero]
   exact (hcell j hj).2) (fun c hc=>by rw [(List.mem_replicate.1 hc).2];exact hz1)
 have hrun:(execOp a.eval ⟨dst,.call { callee:=.builtin .clear,args:=#[x],argTypes:=#[t] },ty,ps,af,none⟩).run P w = .ok (.value (.tuple #[])) (w.setCells b off (List.replicate n z)):=by
  obtain ⟨m',rfl⟩:∃ m,n=m+1:=⟨n-1,by omega⟩
  unfold execOp
  simp [resolve,invoke,builtin,hval,Builtin.clear_,run_underlying hu,hz,ZB5 hz1,hzc,hst]
 have hsplit:cur=(cur.toList.take off++(cur.toList.drop off).take n++cur.toList.drop (off+n)).toArray:=by
  apply Array.ext'
  simp [<- List.drop_drop]
 have hg2:(w.setCells b off (List.replicate n z)).heap[b]?=some (.cells (cur.toList.take off++List.replicate n z++cur.toList.drop (off+n)).toArray e (0,0)):=by
  have:=ZA9 (g:=b) (e:=e) (fz:=(0,0)) (List.replicate n z) ((cur.toList.drop off).take n) (cur.toList.take off) (cur.toList.drop (off+n)) w (by simp;omega) (by rw [<- hsplit];exact hg)
  rwa [List.length_take,Nat.min_eq_left (by omega)] at this
 have hgr:w.grownBy (w.setCells b off (List.replicate n z)) (some b):=ZGj
 have hok':(hQ b xs.length cap e R (xs.take off++List.replicate n x0)).ok (fun j=>Imm P0 B (hQ b xs.length cap e R xs::hp) j/\j<w.heap.size) (w.setCells b off (List.replicate n z)):=by
  have hlen:(xs.take off++List.replicate n x0).length=xs.length:=by simp;omega
  have hlu:(us.take off++List.replicate n z).length=xs.length:=by simp;omega
  refine ⟨us.take off++List.replicate n z,by rw [hlen,hlu],⟨by rw [hlu,hlen,Nat.mul_one],.inr ⟨_,_,_,by rw [hlen],hB,hg2,by rw [hlen];exact hc1,hc2,?_,?_⟩⟩,fun i a1 a2=>?_⟩
  ·simp;omega
  ·rw [hlen,Nat.mul_one]
   rw [List.take_append_of_le_length (by simp;omega),List.take_of_length_le (by simp;omega),<- hc4,List.take_take,Nat.min_eq_left (by omega)]
  ·by_cases hi:i<off
   ·rw [List.getElem_append_left (by simp;omega),List.getElem_append_left (by simp;omega),List.getElem_take,List.getElem_take]
    have:=h4 i (by omega) (by omega)
    exact ⟨this.1,Good.grown this.2 hgr fun r hr hc=>hc.2 (by cases hr;rfl)⟩
   ·rw [List.getElem_append_right (by simp;omega),List.getElem_append_right (by simp;omega),List.getElem_replicate,List.getElem_replicate]
    exact ⟨hz1,hz0 _ _⟩
 refine wpList_plain rfl fun K hK=>?_
 unfold Oper.wp
 rw [hrun]
 exact hK _ _ (h.on (hh.write hgr (.inl rfl) hok') (Fr.put (hf.mono fun _ _ hd=>ZY (o:=hQ b xs.length cap e R xs) (o':=hQ b xs.length cap e R (xs.take off++List.replicate n x0)) hgr (.inl rfl) hd) (d:=dA) trivial))
end
end
section
theorem ZCs {a b c:List Vx} (h:ZA7 a b<0) (k:ZA7 b c<0):ZA7 a c<0:=by
 obtain ⟨h1,h2⟩:=ZDc a b c (by omega) (by omega)
 rcases Int.lt_or_eq_of_le h1 with h3|h3
 ·exact h3
 ·have:=h2 h3;omega
theorem ZHu (a:List Vx):ZA7 a a=0:=ZDy.2 rfl
theorem ZE6 (a b:List Vx):ZA7 a b<0\/ZA7 b a<0\/a=b:=by
 have h:=ZDb a b
 by_cases h1:ZA7 a b<0
 ·exact .inl h1
 by_cases h2:ZA7 b a<0
 ·exact .inr (.inl h2)
 ·exact .inr (.inr (ZDy.1 (by omega)))
def ZTC (xs:Cx):Prop:=xs.Pairwise fun a b=>¬ ZA7 b a<0
def AscL (xs:Cx):Prop:=xs.Pairwise fun a b=>ZA7 a b<0
theorem ZHj:∀ {a b:Cx},AscL a->AscL b->(∀ x,x∈a↔x∈b)->a=b
 | [],[],_,_,_=>rfl
 | [],y::b,_,_,h=>absurd ((h y).2 (by simp)) (by simp)
 | x::a,[],_,_,h=>absurd ((h x).1 (by simp)) (by simp)
 | x::a,y::b,ha,hb,h=>by
  unfold AscL at ha hb
  rw [List.pairwise_cons] at ha hb
  have hxy:x=y:=by
   have h1:=(h x).1 (by simp)
   have h2:=(h y).2 (by simp)
   rw [List.mem_cons] at h1 h2
   rcases h1 with h1|h1
   ·exact h1
   rcases h2 with h2|h2
   ·exact h2.symm
   have h3:=hb.1 x h1
   have h4:=ha.1 y h2
   have:=ZDb x y
   omega
  subst hxy
  rw [ZHj ha.2 hb.2 fun z=>?_]
  have h1:=h z
  rw [List.mem_cons,List.mem_cons] at h1
  constructor
  ·intro hz
   rcases h1.1 (.inr hz) with rfl|h2
   ·have:=ha.1 z hz;have:=ZHu z;omega
   ·exact h2
  ·intro hz
   rcases h1.2 (.inr hz) with rfl|h2
   ·have:=hb.1 z hz;have:=ZHu z;omega
   ·exact h2
theorem AscL.nodup {a:Cx} (h:AscL a):a.Nodup:=List.Pairwise.imp (fun {x y} hxy hc=>by
 subst hc;have:=ZHu x;omega) h
def ZIr (xs:Cx) (m:Nat) (zs:Cx):Prop:=AscL zs/\(∀ v,v∈zs↔v∈xs.take m)/\zs.getLast?=xs[m-1]?
theorem ZNr {zs:Cx} {l:List Vx} (h:AscL zs) (hl:zs.getLast?=some l):∀ a∈zs,a=l\/ZA7 a l<0:=by
 obtain ⟨ys,rfl⟩:=List.getLast?_eq_some_iff.1 hl
 intro a ha
 rcases List.mem_append.1 ha with ha|ha
 ·exact .inr ((List.pairwise_append.1 h).2.2 a ha l (by simp))
 ·exact .inl (by simpa using ha)
theorem ZKm {xs:Cx} (h:1≤xs.length):ZIr xs 1 (xs.take 1):=by
 match xs,h with
 | x::l,_=>exact ⟨by simp [AscL],fun v=>Iff.rfl,by simp⟩
theorem ZHG {xs zs:Cx} {m:Nat} (hs:ZTC xs) (h:ZIr xs m zs) (h1:1≤m) (h2:m<xs.length) (hne:xs[m]≠xs[m-1]'(by omega)):ZIr xs (m+1) (zs++[xs[m]]):=by
 obtain ⟨ha,hm,hl⟩:=h
 rw [List.getElem?_eq_getElem (by omega:m-1<xs.length)] at hl
 have hlt:ZA7 (xs[m-1]'(by omega)) xs[m]<0:=by
  have h3:=(List.pairwise_iff_getElem.1 hs) (m-1) m (by omega) h2 (by omega)
  rcases ZE6 (xs[m-1]'(by omega)) xs[m] with k|k|k
  ·exact k
  ·exact absurd k h3
  ·exact absurd k.symm hne
 refine ⟨List.pairwise_append.2 ⟨ha,by simp,fun a haz b hb=>?_⟩,fun v=>?_,by simp [h2]⟩
 ·have hb':b=xs[m]:=by simpa using hb
  subst hb'
  rcases ZNr ha hl a haz with rfl|h4
  ·exact hlt
  ·exact ZCs h4 hlt
 ·rw [List.mem_append,hm,ZBW h2];simp
theorem ZHH {xs zs:Cx} {m:Nat} (h:ZIr xs m zs) (h1:1≤m) (h2:m<xs.length) (he:xs[m]=xs[m-1]'(by omega)):ZIr xs (m+1) zs:=by
 obtain ⟨ha,hm,hl⟩:=h
 refine ⟨ha,fun v=>?_,?_⟩
 ·rw [hm,ZBW h2]
  refine ⟨.inl,fun h=>h.elim id fun h=>?_⟩
  rw [h,he,List.mem_take_iff_getElem]
  exact ⟨m-1,by omega,rfl⟩
 ·rw [hl,Nat.add_sub_cancel,List.getElem?_eq_getElem h2,List.getElem?_eq_getElem (by omega),he]
theorem ZJZ {xs zs:Cx} {m:Nat} (h:ZIr xs m zs) (h2:xs.length≤m):AscL zs/\∀ v,v∈zs↔v∈xs:=⟨h.1,fun v=>by rw [h.2.1,List.take_of_length_le h2]⟩
theorem ZIB:∀ {l:Cx} {s x:List Vx},x∈ZQA l s↔x=s\/x∈l
 | [],s,x=>by simp [ZQA]
 | y::l,s,x=>by
  unfold ZQA
  split
  ·simp
  ·rw [List.mem_cons,ZIB,List.mem_cons]
   constructor
   ·rintro (h|h|h) <;> simp [h]
   ·rintro (h|h|h) <;> simp [h]
theorem ZRn {l:Cx} {s x:List Vx}:x∈ZFy l s↔x=s\/x∈l:=by
 unfold ZFy
 split
 ·rename_i h
  exact ⟨.inr,fun h'=>h'.elim (fun e=>e ▸ h) id⟩
 ·exact ZIB
theorem ZLw:∀ {l:Cx} {s:List Vx},AscL l->s∉l->AscL (ZQA l s)
 | [],s,_,_=>by simp [ZQA,AscL]
 | y::l,s,h,hs=>by
  have h':=h
  unfold AscL at h'
  rw [List.pairwise_cons] at h'
  unfold ZQA
  split
  ·rename_i hlt
   unfold AscL
   rw [List.pairwise_cons]
   refine ⟨fun a ha=>?_,h⟩
   rcases List.mem_cons.1 ha with rfl|ha
   ·exact hlt
   ·exact ZCs hlt (h'.1 a ha)
  ·rename_i hlt
   unfold AscL
   rw [List.pairwise_cons]
   refine ⟨fun a ha=>?_,ZLw h'.2 fun hc=>hs (by simp [hc])⟩
   rcases ZIB.1 ha with rfl|ha
   ·rcases ZE6 a y with k|k|k
    ·exact absurd k hlt
    ·exact k
    ·exact absurd (by rw [k];simp) hs
   ·exact h'.1 a ha
theorem ZRl {l:Cx} {s:List Vx} (h:AscL l):AscL (ZFy l s):=by
 unfold ZFy
 split
 ·exact h
 ·rename_i hs;exact ZLw h hs
theorem ZD2:∀ {l out:Cx},AscL out->AscL (l.foldl ZFy out)
 | [],_,h=>h
 | s::l,out,h=>ZD2 (l:=l) (ZRl h)
theorem ZD3:∀ {l out:Cx} {x:List Vx},x∈l.foldl ZFy out↔x∈l\/x∈out
 | [],out,x=>by simp
 | s::l,out,x=>by
  rw [List.foldl_cons,ZD3 (l:=l),ZRn,List.mem_cons]
  constructor
  ·rintro (h|h|h) <;> simp [h]
  ·rintro ((h|h)|h) <;> simp [h]
theorem ZFu (l:Cx):AscL (ZCv l):=ZD2 (by simp [AscL])
theorem ZCL {l:Cx} {s:List Vx}:s∈ZCv l↔s∈l/\ZPt l s=true:=by
 unfold ZCv
 rw [ZD3,List.mem_filter]
 simp
theorem ZAZ {l:Cx} {s:List Vx}:ZAY l s=true↔∃ x∈l,s.length<x.length/\ZA1 s x=true:=by
 unfold ZAY
 simp
theorem ZHw {l l':Cx} (h:∀ x,x∈l↔x∈l') (s:List Vx):ZAY l s=ZAY l' s:=by
 rw [Bool.eq_iff_iff,ZAZ,ZAZ]
 constructor
 ·rintro ⟨x,hx,hr⟩;exact ⟨x,(h x).1 hx,hr⟩
 ·rintro ⟨x,hx,hr⟩;exact ⟨x,(h x).2 hx,hr⟩
theorem ZTt {l zs:Cx} (h0:∀ s∈l,0<s.length) (ha:AscL zs) (hm:∀ u,u∈zs↔u∈l):(zs.filter fun s=>!ZAY zs s)=ZCv l:=by
 refine ZHj (List.Pairwise.filter _ ha) (ZFu l) fun s=>?_
 rw [List.mem_filter,ZCL,hm]
 unfold ZPt
 rw [ZHw hm]
 constructor
 ·rintro ⟨h1,h2⟩;exact ⟨h1,by rw [decide_eq_true (h0 s h1)];exact h2⟩
 ·rintro ⟨h1,h2⟩;rw [decide_eq_true (h0 s h1)] at h2;exact ⟨h1,h2⟩
end
end Go.Proofs.YtekiljakcngcoaaGreatDoor
