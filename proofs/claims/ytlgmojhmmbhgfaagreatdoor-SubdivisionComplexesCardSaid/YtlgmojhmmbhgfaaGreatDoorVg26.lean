/- Part 26: walks by contracts, and plain laws. -/
import Derived.Test.YtlgmojhmmbhgfaaGreatDoorVg24
set_option linter.unusedVariables false
set_option linter.unusedSimpArgs false
set_option linter.unusedSectionVars false
set_option maxRecDepth 100000
set_option maxHeartbeats 4000000
namespace Go.Proofs.YtlgmojhmmbhgfaaGreatDoor.M
section
open Go.RowKit
section
variable {P:Program} {ops:Array Oper} {hp:List HObj} {o:Oper} {fr:List Dat} {d:Dat} {Q:ZAL} {rest:List Oper}
variable {dst:Option Tmp} {ty:TypeId} {ps:String} {af:Array Edge} {g:Option (Nat × Bool)}
theorem WL.alloc {T:TypeId} {n:Nat} {agg:Bool} {z:Value} (hz:TyZ P T z) (hs:(dX z).Shape n agg)
  (h:∀ b,WL P ops Q rest (ZB fr dst (dX (.pointer (some ⟨b,0,none⟩)))) (ZQ b T n agg (dX z)::hp)):WL P ops Q (⟨dst,.alloc T,ty,ps,af,none⟩::rest) fr hp:=by
 refine WL.of fun P0 B w0 w a hh hf=>?_
 obtain ⟨cs,k1,k0,k2,k3,k4⟩:=hs (fun _=>True) w z rfl
 have hrun:(execOp a.eval ⟨dst,.alloc T,ty,ps,af,none⟩).run P w = .ok (.value (.pointer (some ⟨w.heap.size,0,none⟩))) (w.alloc (.cells cs.toArray T)):=by
  cases hq:P.info? T with
  | none=>have:=hz.out;simp [hq] at this
  | some i =>
   have hz':i.zero=some z:=by have:=hz.out;simpa [hq] using this
   unfold execOp
   simp [Instr.alloc,zeroValue,typeInfo,hq,hz',newVar,newRow,k3]
 refine Zl rfl hrun ?_
 have hx:=Ext.of_alloc w (.cells cs.toArray T)
 have hb:∀ k,(ZQ w.heap.size T n agg (dX z)).blk=some k->w.heap.size≤k/\k<(w.alloc (.cells cs.toArray T)).heap.size:=fun k hk=>by
  cases hk
  exact ⟨Nat.le_refl _,by simp⟩
 refine (h w.heap.size).on ⟨hh.h.push hx.b hb ⟨cs,z,Zk w _,k1,k0,k2,k4,rfl⟩,hh.d⟩ ?_
 exact Fr.put (hf.mono fun d _ hd=>Zf hx.b (fun k hk=>(hb k hk).1) hd) rfl

theorem Zw {x:Operand} {t b n:Nat} {T T2:TypeId} {agg:Bool} {d0:Dat} (hT:TyI P T n agg) (hp0:OpD fr (.tmp t) (dX (.pointer (some ⟨b,0,none⟩)))) (hx:OpD fr x d) (hs:d.Shape n agg)
  (h:WL P ops Q rest (ZB fr dst (dX undef)) (ZQ b T2 n agg d::hp)):WL P ops Q (⟨dst,.store T (.tmp t) x,ty,ps,af,none⟩::rest) fr (ZQ b T2 n agg d0::hp):=by
 refine WL.of fun P0 B w0 w a hh hf=>?_
 obtain ⟨cs,u,c1,c2,c0,c3,c4,c5⟩:=hh.h.ok (ZQ b T2 n agg d0) (by simp)
 have h1:=hx.ev hf
 obtain ⟨cs',k1,k0,k2,k3,k4⟩:=hs _ _ _ h1
 have h2:a.eval (.tmp t) = .pointer (some ⟨b,0,none⟩):=hp0.ev hf
 have hr:=ZB7 (u:=a.eval x) hT.size c1 c2 k1 k2 k3
 have hrun:(execOp a.eval ⟨dst,.store T (.tmp t) x,ty,ps,af,none⟩).run P w = .ok .skip (w.setRow b cs'.toArray):=by
  unfold execOp
  simp only [h2,Sem.run_bind,hr,Result.andThen_ok,Sem.run_pure]
 refine wpList_plain rfl fun K hK=>?_
 unfold Oper.wp
 rw [hrun]
 have hgr:w.grownBy (w.setRow b cs'.toArray) (ZQ b T2 n agg d0).blk:=ZAj
 have hok:(ZQ b T2 n agg d).ok (fun k=>Imm P0 B (ZQ b T2 n agg d0::hp) k/\k<w.heap.size) (w.setRow b cs'.toArray) :=
  ⟨cs',a.eval x,setRow_heap w b _ _ _ _ c1,k1,k0,k2,k4,d.grown (d.bound h1) hgr (fun k hk hc=>hc.1.2 _ (by simp) hk)⟩
 exact hK _ _ (h.on ⟨hh.h.write hgr (.inl rfl) hok,hh.d⟩ (Fr.put (hf.mono fun _ _ hd=>ZM (o':=ZQ b T2 n agg d) hgr (.inl rfl) hd) (d:=dX undef) rfl))
theorem ZDA {t b n:Nat} {T:TypeId} {agg:Bool} (hp0:fr[t]?=some (dX (.pointer (some ⟨b,0,none⟩)))) (h:WL P ops Q rest (fr.set t (dP n agg d)) hp):WL P ops Q rest fr (ZQ b T n agg d::hp):=by
 refine WL.of fun P0 B w0 w a hh hf=>?_
 obtain ⟨cs,u,c1,c2,c0,c3,c4,c5⟩:=hh.h.ok (ZQ b T n agg d) (by simp)
 have hown:=hh.h.own (ZQ b T n agg d) (by simp) b rfl
 refine h.on ⟨hh.h.drop,hh.d⟩ ⟨hf.defers,by rw [hf.size,List.length_set],fun t' d' hd'=>?_⟩
 by_cases htt:t=t'
 ·subst htt
  rw [List.getElem?_set] at hd'
  simp only [if_true] at hd'
  split at hd'
  ·cases hd'
   have hv:a.tmps.getD t undef = .pointer (some ⟨b,0,none⟩):=hf.rd t _ hp0
   rw [hv]
   refine ⟨b,0,u,rfl,ZAi c1 c2 c0 c3 c4 ⟨.inr hown.1,fun o' ho' hk=>?_⟩,d.weak c5 Imm.sub⟩
   exact (List.pairwise_cons.1 hh.h.apart).1 o' ho' b rfl hk
  ·cases hd'
 ·rw [List.getElem?_set_ne htt] at hd'
  exact d'.weak (hf.rd t' d' hd') Imm.sub
theorem ZN {x:Operand} {t b n:Nat} {T T2:TypeId} {agg:Bool} {d0:Dat} (hT:TyI P T n agg) (hp0:fr[t]?=some (dX (.pointer (some ⟨b,0,none⟩)))) (hx:OpD fr x d) (hs:d.Shape n agg)
  (h:WL P ops Q rest (fr.set t (dP n agg d)) hp):WL P ops Q (⟨none,.store T (.tmp t) x,ty,ps,af,none⟩::rest) fr (ZQ b T2 n agg d0::hp) :=
 Zw hT (OpD.t hp0) hx hs (ZDA hp0 h)
end
end
section
open Go.RowKit

set_option maxHeartbeats 4000000 in
theorem ZNZ (a b:List Vx):Fn Tryz.prog 99 [dS ZE a,dS ZE b,ZJm Tryz.prog (fun x:Vx × Vx=>[dS RV x.1,dS RV x.2]) (fun x=>dI (ZA0 x.1 x.2))] (dI (ZAz a b)):=by
 (refine ZG Tryz.func99 rfl rfl ?_;simp only [Tryz.ntmps99,List.length_cons,List.length_nil,Nat.reduceAdd,Nat.reduceSub,List.replicate_succ,List.replicate_zero,List.cons_append,List.nil_append])
 (repeat' (first|(apply ZJ;(focus (apply ZF;(exact ZR rfl);(first|(apply SY.move <;> (exact oD))|(apply SY.assign <;> (exact oD))|(apply SY.load;(exact tD);(exact OpD.t rfl)))));dsimp only [ZB,z0,z1])|refine WL.nil ?_|refine ZA fun Kx hK=>?_|(refine hK _ _ ?_;clear hK)|refine WC.region ?_|(apply ZJ;(focus (apply ZF;(exact ZR rfl);((first|(apply SY.len;(exact oD);(exact nD);(exact uD))|fail);all_goals infer_instance)));dsimp only [ZB,z0,z1])|refine WC.block ?_))
 (first|refine ZS (t:=0) rfl ZFJ fun hl0=>?_|refine ZS (t:=0) rfl ZFI fun hl0=>?_);simp only [maxLen] at hl0
 (first|refine ZS (t:=1) rfl ZFJ fun hl1=>?_|refine ZS (t:=1) rfl ZFI fun hl1=>?_);simp only [maxLen] at hl1
 (refine WC.loopU (X:=Nat) (fun k=>[(13,dI (k:Int)),(6,dA),(7,dA),(8,dA),(9,dA),(10,dA),(14,dA),(15,dA),(16,dA),(17,dA),(18,dA),(19,dA),(20,dA),(21,dA),(22,dA),(23,dA),(24,dA),(25,dA),(26,dA),(27,dA),(28,dA),(29,dA),(30,dA),(31,dA),(32,dA),(33,dA)]) (fun k=>[]) (fun k=>a.length-k) (fun k=>k≤a.length/\k≤b.length/\ZAz a b=ZAz (a.drop k) (b.drop k)) 0 ?start ?frame0 ?objs0 ?round)
 case start=>exact ⟨Nat.zero_le _,Nat.zero_le _,rfl⟩
 case frame0=>((try dsimp only [ZK,z0,z1]);repeat (first|exact LeF.nil|refine ZD (k:=?_)))
 case objs0=>rfl
 case round =>
  rintro k ⟨h1,h2,h3⟩
  dsimp only [ZK,z0,z1]
  ((repeat' (first|(apply ZJ;(focus (apply ZF;(exact ZR rfl);(first|(apply SY.move <;> (exact oD))|(apply SY.assign <;> (exact oD))|(apply SY.load;(exact tD);(exact OpD.t rfl)))));dsimp only [ZB,z0,z1])|refine WL.nil ?_|refine ZA fun Kx hK=>?_|(refine hK _ _ ?_;clear hK)|(refine Kont.skip ?_;clear hK)|refine WC.region ?_|(apply WL.alloc;(exact tzV);(first|exact ZY rfl|exact ZAF);(intro _;dsimp only [ZB,z0,z1]))|(apply ZN;(exact tD);rfl;(exact oD);(exact hD);dsimp only [ZB,z0,z1])|(apply ZJ;(focus (apply ZF;(exact ZR rfl);((first|(apply ZD0 (x:=((a[k],b[k]):Vx × Vx));(exact OpD.t rfl);(exact aD))|((first|apply SY.move|apply SY.assign|apply SY.lss|apply SY.geq|apply SY.neq) <;> (exact oD))|((first|apply SY.add) <;> first|exact oD|omega)|(apply SY.len;(exact oD);(exact nD);(exact uD))|(apply ZBC;(exact eD);(exact oD);(exact oD);exact kD)|fail);all_goals infer_instance)));dsimp only [ZB,z0,z1])|(apply ZC;(exact oD);(all_goals intro h);(all_goals try (exfalso;first|omega|contradiction)))|(apply ZL;(exact oD);(all_goals intro h);(all_goals try (exfalso;first|omega|contradiction)))|refine WC.skip ?_|refine WC.ret ?_|refine WC.exit ?_|refine WC.block ?_|refine ThenD.n ?_|refine ThenD.r ?_|refine InBlockD.r ?_));all_goals (first|((repeat clear hK);(repeat clear Kx))))
  all_goals first
   | ((refine ⟨k+1,?_,by first|omega|(simp only;omega),rfl,?_⟩;rotate_left;((try dsimp only [ZK,z0,z1]);repeat (first|exact LeF.nil|refine ZD (k:=?_)));(try dsimp only));exact ⟨by omega,by omega,h3.trans (ZF7 (by omega) (by omega) (by assumption))⟩)
   | ((refine ⟨trivial,_,rfl,?_⟩;refine FinD.i ?_);rw [h3,ZEU];repeat' split) <;> first|rfl|contradiction|omega
theorem ZIt (a b:List Vx):Fn Tryz.prog 64 [dS ZE a,dS ZE b] (dI (ZAz a b)):=by
 (refine ZG Tryz.func64 rfl rfl ?_;simp only [Tryz.ntmps64,List.length_cons,List.length_nil,Nat.reduceAdd,Nat.reduceSub,List.replicate_succ,List.replicate_zero,List.cons_append,List.nil_append])
 ((repeat' (first|(apply ZJ;(focus (apply ZF;(exact ZR rfl);(first|(apply SY.move <;> (exact oD))|(apply SY.assign <;> (exact oD)))));dsimp only [ZB,z0,z1])|refine WL.nil ?_|refine ZA fun Kx hK=>?_|(refine hK _ _ ?_;clear hK)|refine WC.region ?_|(apply ZJ;(focus (apply ZF;(exact ZR rfl);((first|(apply SY.call (ZNZ _ _) Tryz.call99;(exact aD))|fail);all_goals infer_instance)));dsimp only [ZB,z0,z1])|refine WC.ret ?_));all_goals (first|((repeat clear hK);(repeat clear Kx))))
 all_goals ((refine ⟨trivial,_,rfl,?_⟩;refine FinD.i ?_);try rfl)
theorem ZTY {I:Nat->Prop} {w:World} {u v:Value} {a b:List Vx} (hu:ZE I w u a) (hv:ZE I w v b):Calls Tryz.prog 64 #[u,v] w fun e w'=>e = .returned (.int .i64 (ZAz a b))/\∃ q os',w'=Go.Sort.grow (w.drewN q) os':=by
 have:=(ZIt a b).out I w [u,v] rfl (fun i d hd=>by
  match i with
  | 0=>cases hd;exact hu
  | 1=>cases hd;exact hv
  | i+2=>simp at hd)
 exact this.mono fun e w' ⟨v,h1,h2,h3⟩=>⟨by rw [h1];exact congrArg _ h3,h2.grow⟩
end
end Go.Proofs.YtlgmojhmmbhgfaaGreatDoor.M
namespace Go.Proofs
section
open Go.Shelf
def Tryz.sortS_ren:Go.Shelf.Ren:=⟨fun|6=>111|15=>98|14=>132|28=>127|29=>128|20=>143|21=>144|22=>145|23=>146|24=>147|25=>148|26=>149|27=>150|46=>156|47=>138|48=>139|49=>157|50=>158|57=>161|n=>n,fun|22=>22|24=>28|25=>88|3=>3|39=>136|0=>0|53=>158|55=>160|4=>4|46=>152|45=>151|50=>39|5=>5|9=>9|66=>168|70=>172|76=>182|77=>183|n=>n,fun|n=>n⟩
theorem Tryz.sortS:Go.Proofs.SlLaysF.n6 Tryz.prog Tryz.sortS_ren:={
 mixed:=by kernel_rfl
 f6:=⟨Tryz.f111.name,by decide,Tryz.func111.trans (congrArg some (by kernel_rfl))⟩
 f14:=⟨Tryz.f132.name,by decide,Tryz.func132.trans (congrArg some (by kernel_rfl))⟩
 f15:=Tryz.func98.trans (congrArg some (by kernel_rfl))
 f20:=⟨Tryz.f143.name,by decide,Tryz.func143.trans (congrArg some (by kernel_rfl))⟩
 f21:=⟨Tryz.f144.name,by decide,Tryz.func144.trans (congrArg some (by kernel_rfl))⟩
 f22:=⟨Tryz.f145.name,by decide,Tryz.func145.trans (congrArg some (by kernel_rfl))⟩
 f23:=⟨Tryz.f146.name,by decide,Tryz.func146.trans (congrArg some (by kernel_rfl))⟩
 f24:=⟨Tryz.f147.name,by decide,Tryz.func147.trans (congrArg some (by kernel_rfl))⟩
 f25:=⟨Tryz.f148.name,by decide,Tryz.func148.trans (congrArg some (by kernel_rfl))⟩
 f26:=⟨Tryz.f149.name,by decide,Tryz.func149.trans (congrArg some (by kernel_rfl))⟩
 f27:=⟨Tryz.f150.name,by decide,Tryz.func150.trans (congrArg some (by kernel_rfl))⟩
 f28:=Tryz.func127.trans (congrArg some (by kernel_rfl))
 f29:=Tryz.func128.trans (congrArg some (by kernel_rfl))
 f46:=⟨Tryz.f156.name,by decide,Tryz.func156.trans (congrArg some (by kernel_rfl))⟩
 f47:=Tryz.func138.trans (congrArg some (by kernel_rfl))
 f48:=Tryz.func139.trans (congrArg some (by kernel_rfl))
 f49:=⟨Tryz.f157.name,by decide,Tryz.func157.trans (congrArg some (by kernel_rfl))⟩
 f50:=⟨Tryz.f158.name,by decide,Tryz.func158.trans (congrArg some (by kernel_rfl))⟩
 f57:=⟨Tryz.f161.name,by decide,Tryz.func161.trans (congrArg some (by kernel_rfl))⟩
 t0:=Tryz.underlying0
 a0:=Tryz.isAgg0
 z0:=Tryz.sizeOf0
 v0:=Tryz.zeroValue0
 t3:=Tryz.underlying3
 a3:=Tryz.isAgg3
 z3:=Tryz.sizeOf3
 v3:=Tryz.zeroValue3
 t4:=Tryz.underlying4
 a4:=Tryz.isAgg4
 z4:=Tryz.sizeOf4
 v4:=Tryz.zeroValue4
 t5:=Tryz.underlying5
 a5:=Tryz.isAgg5
 z5:=Tryz.sizeOf5
 v5:=Tryz.zeroValue5
 t9:=Tryz.underlying9
 a9:=Tryz.isAgg9
 z9:=Tryz.sizeOf9
 v9:=Tryz.zeroValue9
 t22:=Tryz.underlying22
 a22:=Tryz.isAgg22
 z22:=Tryz.sizeOf22
 v22:=Tryz.zeroValue22
 a24:=Tryz.isAgg28
 z24:=Tryz.sizeOf28
 t25:=Tryz.underlying88
 a25:=Tryz.isAgg88
 z25:=Tryz.sizeOf88
 v25:=Tryz.zeroValue88
 t39:=Tryz.underlying136
 a39:=Tryz.isAgg136
 z39:=Tryz.sizeOf136
 v39:=Tryz.zeroValue136
 t45:=Tryz.underlying151
 a45:=Tryz.isAgg151
 z45:=Tryz.sizeOf151
 v45:=Tryz.zeroValue151
 t46:=Tryz.underlying152
 a46:=Tryz.isAgg152
 z46:=Tryz.sizeOf152
 v46:=Tryz.zeroValue152
 t50:=Tryz.underlying39
 a50:=Tryz.isAgg39
 z50:=Tryz.sizeOf39
 v50:=Tryz.zeroValue39
 t53:=Tryz.underlying158
 a53:=Tryz.isAgg158
 z53:=Tryz.sizeOf158
 v53:=Tryz.zeroValue158
 t55:=Tryz.underlying160
 a55:=Tryz.isAgg160
 z55:=Tryz.sizeOf160
 v55:=Tryz.zeroValue160
 t66:=Tryz.underlying168
 a66:=Tryz.isAgg168
 z66:=Tryz.sizeOf168
 v66:=Tryz.zeroValue168
 t70:=Tryz.underlying172
 a70:=Tryz.isAgg172
 z70:=Tryz.sizeOf172
 v70:=Tryz.zeroValue172
 t76:=Tryz.underlying182
 a76:=Tryz.isAgg182
 z76:=Tryz.sizeOf182
 v76:=Tryz.zeroValue182
 t77:=Tryz.underlying183
 a77:=Tryz.isAgg183
 z77:=Tryz.sizeOf183
 v77:=Tryz.zeroValue183 }
end
end Go.Proofs
namespace Go.Proofs.YtlgmojhmmbhgfaaGreatDoor
section
open Go.RowKit Go.Sort Go.Shelf
section
variable {w:World} {g n cap:Nat} {os:Array Obj} {cur:Array Value} {e:TypeId} {fz:Nat × Nat} {α:Type} [Inhabited α] {enc:α->Value}
theorem ZGI (d:Array α):w.grownBy (sortWorld enc w g 0 n d os) (some g):=by
 refine ⟨rfl,rfl,rfl,by simp [sortWorld],fun k hk hne=>?_⟩
 unfold sortWorld
 rw [heap_grow_old _ _ (by simpa using hk)]
 have:g≠k:=fun e=>hne (by rw [e])
 simp [putRow,mapBlock,Sort.ahead,Array.getElem?_modify,this]
theorem ZJB (d:Array α) (hb:w.heap[g]?=some (.cells cur e fz)) :
  (sortWorld enc w g 0 n d os).heap[g]?=some (.cells (putCells enc 0 d cur) e fz):=by
 have hg:g<w.heap.size:=(Array.getElem?_eq_some_iff.1 hb).1
 unfold sortWorld
 rw [heap_grow_old _ _ (by simpa using hg)]
 simp [putRow,mapBlock,Sort.ahead,Array.getElem?_modify,hb,onCells]
theorem ZHn {d:Array α} (hb:w.heap[g]?=some (.cells cur e (0,0))) (ht:cur.toList.take d.size=d.toList.map enc):Holds enc w g 0 d:=by
 intro j hj
 refine ⟨?_,by simp [World.frozen?,hb]⟩
 have h1:(cur.toList.take d.size)[j]?=(d.toList.map enc)[j]?:=by rw [ht]
 rw [List.getElem?_take_of_lt hj] at h1
 simp only [World.cell?,hb,Nat.zero_add]
 simp only [Option.isSome_none,Bool.false_eq_true,if_false]
 rw [<- Array.getElem?_toList,h1,getElem!_pos _ j hj]
 simp [hj]
theorem ZGn (cur:Array Value) (d:Array α) (h:d.size≤cur.size):(putCells enc 0 d cur).toList.take d.size=d.toList.map enc:=by
 apply List.ext_getElem?
 intro j
 by_cases hj:j<d.size
 ·rw [List.getElem?_take_of_lt hj,Array.getElem?_toList]
  simp [putCells,hj,show j<cur.size by omega]
 ·rw [List.getElem?_take_eq_none (by omega),List.getElem?_eq_none (by simp;omega)]
end
theorem ZGk {a b c:List Vx} (h:ZAz a b<0) (k:ZAz b c<0):ZAz a c<0:=by
 obtain ⟨h1,h2⟩:=ZDd a b c (by omega) (by omega)
 rcases Int.lt_or_eq_of_le h1 with h3|h3
 ·exact h3
 ·have:=h2 h3;omega
theorem swoL {α:Type} (f:α->List Vx):SWO (ltOf fun x y:α=>ZAz (f x) (f y)) where
 irrefl x:=by simp [ltOf,ZBe.2 (rfl:f x=f x)]
 trans x y z h h':=by
  simp only [ltOf,decide_eq_true_eq] at *
  exact ZGk h h'
 ntrans x y z h h':=by
  simp only [ltOf,decide_eq_false_iff_not] at *
  have e1:=ZDc (f x) (f y)
  have e2:=ZDc (f y) (f z)
  have e3:=ZDc (f x) (f z)
  have:=(ZDd (f z) (f y) (f x) (by omega) (by omega)).1
  omega
section
variable {ops:Array Oper} {hp:List HObj} {fr:List Dat} {Q:ZAL} {rest:List Oper} {dst:Option Tmp} {ty:TypeId} {ps:String} {af:Array Edge}
theorem ZPo {x:Operand} {v:Value} {e:TypeId} {xs:List (List Vx)} {ats:Array TypeId} (hx:OpD fr x (dX v)) (hlen:xs.length<4611686018427387904)
  (h:∀ ys:List (List Vx),ys.Perm xs->ys.Pairwise (fun a b=>¬ ZAz b a<0)->WL Tryz.prog ops Q rest (ZB fr dst dA) (ZW v e ZE ys::hp)) :
  WL Tryz.prog ops Q (⟨dst,.call { callee:=.value (.func 111),args:=#[x,.func 64],argTypes:=ats },ty,ps,af,none⟩::rest) fr (ZW v e ZE xs::hp):=by
 refine WL.of fun P0 B w0 w a hh hf=>?_
 have hok:=hh.ok (ZW v e ZE xs) (by simp)
 obtain ⟨us,h1,h2,h3⟩:=hok
 have hev:a.eval x=v:=hx.ev hf
 obtain ⟨hfl,hv⟩:=h2
 have hrun:(execOp a.eval ⟨dst,.call { callee:=.value (.func 111),args:=#[x,.func 64],argTypes:=ats },ty,ps,af,none⟩).run Tryz.prog w = .ok (.enter 111 #[v,.func (.func 64) #[] #[]]) w:=by
  unfold execOp
  simp only [resolve]
  have he:(#[x,Operand.func 64]:Array Operand).map a.eval=#[v,.func (.func 64) #[] #[]]:=by simp [hev];rfl
  rw [he]
  simp [Act.eval,Deferred.ofValue,invoke,Tryz.call111]
 by_cases hne:xs=[]
 ·subst hne
  have hv0:∃ p cap,v = .slice p 0 cap:=by
   rcases hv with ⟨hv,_⟩|⟨g,cap,cur,hv,_⟩
   ·exact ⟨_,_,hv⟩
   ·exact ⟨_,_,hv⟩
  obtain ⟨p,cap,hv0⟩:=hv0
  have hcon:=AnyF.slices_SortFunc_none (P:=Tryz.prog) (ρ:=Tryz.sortS_ren) { Tryz.sortS with } p cap (.func (.func 64) #[] #[]) w
  change Calls Tryz.prog 111 _ _ _ at hcon
  refine wpList_plain rfl fun K hK=>?_
  unfold Oper.wp
  rw [hrun,hv0]
  refine hcon.mono fun e' w' ⟨he,hw'⟩=>?_
  subst he
  subst hw'
  exact hK _ _ ((h [] (List.Perm.refl _) List.Pairwise.nil).on hh (hf.put (d:=dA) trivial))
 have hpos:0<xs.length:=List.length_pos_iff.2 hne
 rcases hv with ⟨_,hz⟩|⟨g,cap,cur,hv,hB,hg,hc1,hc2,hc3,hc4⟩
 ·omega
 have hgb:g<w.heap.size:=(Array.getElem?_eq_some_iff.1 hg).1
 let J:Nat->Prop:=fun b=>Imm P0 B (ZW v e ZE xs::hp) b/\v.ownBlock≠some b
 let α:={p:Value × List Vx // p.1.oneCell'=true/\ZE J w p.1 p.2}
 let at0:Fin xs.length->α:=fun k=>⟨(us[k.1]'(by omega),xs[k.1]),h3 k.1 (by omega) k.2⟩
 haveI:Inhabited α:=⟨at0 ⟨0,hpos⟩⟩
 let enc:α->Value:=fun p=>p.1.1
 let d:Array α:=(List.ofFn at0).toArray
 have hds:d.size=xs.length:=by simp [d]
 have hdu:d.toList.map enc=us:=by
  apply List.ext_getElem (by simp [d,h1])
  intro k a b
  simp [d,enc,at0]
 have hdx:d.toList.map (fun p=>p.1.2)=xs:=by
  apply List.ext_getElem (by simp [d])
  intro k a b
  simp [d,at0]
 have hown:v.ownBlock=some g:=by rw [hv];rfl
 have hH:Holds enc w g 0 d:=ZHn hg (by rw [hds,hdu];simpa using hc4)
 have hgr:∀ (d':Array α) (n:Nat) (os:Array Obj),w.grownBy (sortWorld enc w g 0 n d' os) (ZW v e ZE xs).blk:=fun d' n os=>by
  show w.grownBy _ v.ownBlock
  rw [hown];exact ZGI d'
 have hmove:∀ (p:α) (d':Array α) (n:Nat) (os:Array Obj),ZE (fun b=>J b/\b<w.heap.size) (sortWorld enc w g 0 n d' os) p.1.1 p.1.2:=fun p d' n os =>
  Good.move (Good.bound p.2.2) fun k hk hlt=>(hgr d' n os).block k hlt fun he=>hk.1.2 he.symm
 have hcon:=Any.slices_SortFunc Tryz.sortS enc (fun p=>p.2.1) (fun p q=>ZAz p.1.2 q.1.2) (swoL fun p:α=>p.1.2) 64 #[] g 0 cap d w Tryz.call64
  (fun m os dk _ p q=>M.ZTY (hmove p dk m os) (hmove q dk m os)) hH hgb (by rw [hds];exact hlen)
 change Calls Tryz.prog 111 _ _ _ at hcon
 refine wpList_plain rfl fun K hK=>?_
 unfold Oper.wp
 rw [hrun]
 have hva:v = .slice (some ⟨g,0,none⟩) d.size cap:=by rw [hds];exact hv
 rw [<- hva] at hcon
 refine hcon.mono fun e' w' ⟨he,d',n,os,hp1,hs,hw'⟩=>?_
 subst he
 subst hw'
 obtain ⟨q1,_,q3⟩:=hp1
 have hperm:d'.toList.Perm d.toList:=by
  have e1:d'.extract 0 d.size=d':=by rw [<- q1];simp
  have e2:d.extract 0 d.size=d:=by simp
  rw [e1,e2] at q3
  exact q3
 have hys:(d'.toList.map fun p=>p.1.2).Perm xs:=by
  have:=hperm.map (fun p:α=>p.1.2)
  rwa [hdx] at this
 have hsort:(d'.toList.map fun p=>p.1.2).Pairwise (fun a b=>¬ ZAz b a<0):=by
  rw [List.pairwise_map,List.pairwise_iff_getElem]
  intro i j hi hj hij
  have hi':i<d'.size:=by simpa using hi
  have hj':j<d'.size:=by simpa using hj
  have:=hs i j (Nat.zero_le _) hij (by omega)
  rw [getElem!_pos d' i hi',getElem!_pos d' j hj'] at this
  simpa [ltOf] using this
 have hlen':(d'.toList.map fun p=>p.1.2).length=xs.length:=by simp;omega
 have hok:(ZW v e ZE (d'.toList.map fun p=>p.1.2)).ok (fun k=>Imm P0 B (ZW v e ZE xs::hp) k/\k<w.heap.size) (sortWorld enc w g 0 n d' os):=by
  refine ⟨d'.toList.map enc,by simp,⟨by simp,.inr ⟨g,cap,putCells enc 0 d' cur,?_,hB,ZJB _ hg,by omega,hc2,by simp [putCells,hc3],?_⟩⟩,fun k a b=>?_⟩
  ·rw [hlen'];exact hv
  ·rw [hlen',Nat.mul_one,<- hds,<- q1]
   exact ZGn _ _ (by rw [q1,hds,hc3];omega)
  ·have hk:k<d'.toList.length:=by simpa using a
   refine ⟨by rw [List.getElem_map];exact d'.toList[k].2.1,?_⟩
   rw [List.getElem_map,List.getElem_map]
   exact Good.weak (hmove d'.toList[k] d' n os) fun b hb=>⟨⟨hb.1.1,hb.2⟩,hb.1.2⟩
 exact hK _ _ ((h _ hys hsort).on (hh.write (hgr d' n os) (.inl rfl) hok) (Fr.put (hf.mono fun _ _ hd=>ZM (o':=ZW v e ZE (d'.toList.map fun p=>p.1.2)) (hgr d' n os) (.inl rfl) hd) (d:=dA) trivial))
end
end
section
open Go.RowKit

theorem ZL0 {P:Program} {f:FuncId} {ds:List Dat} {hp1:List HObj} {e:TypeId} {α:Type} {R:Rel α} {_gR:Good R} {xs:List α} (h:CallC P f ds hp1 fun d' hp2=>∃ v,d'=dX v/\(hp2=[ZW v e R xs]\/v = .slice none 0 0/\xs=[]/\hp2=[])):CallC P f ds hp1 fun d' hp2=>∃ v,d'=dX v/\hp2=[ZW v e R xs]:=⟨fun P0 B w0 hp vs W hh hl hv=>by
 refine Calls.mono (h.out P0 B w0 hp vs W hh hl hv) fun e' W' ⟨v,d,hp2,he,hk,hh2,hd⟩=>?_
 obtain ⟨u,hdu,hk⟩:=hk
 rcases hk with rfl|⟨rfl,rfl,rfl⟩
 ·exact ⟨v,d,_,he,⟨u,hdu,rfl⟩,hh2,hd⟩
 ·exact ⟨v,d,[ZW (.slice none 0 0) e R []],he,⟨_,hdu,rfl⟩,hh2.push (Ext.refl _) (by simp [ZW,Value.ownBlock]) Own.nil,Zf (Ext.refl _) (by simp [ZW,Value.ownBlock]) hd⟩⟩
theorem ZTf:∀ (x y:Operand) ad m c w,(do eqGuard .eql 22 x y (.slice ad m c) (.slice none 0 0);Go.binOp .eql 22 (.slice ad m c) (.slice none 0 0)).run Tryz.prog w = .ok (.bool ad.isNone) w:=by
 intro x y ad m c w
 cases ad <;> (go_simp;try (unfold Go.binOp;simp only;unfold Op.equal Op.maxDepth Op.equalIn;simp [run_underlying Tryz.underlying22]))
theorem nil_A {α:Type} {R:Rel α} [Good R] {xs:List α} {I:Nat->Prop} {w:World} {v:Value} (h:(dS (Arr R) xs).rd I w v):∃ a m c,v = .slice a m c/\(a=none->m=0):=by
 obtain ⟨ad,cap,rfl,h1,h2,h3⟩:=(h:Arr R I w v xs)
 refine ⟨_,_,_,rfl,fun hn=>?_⟩
 rcases Nat.eq_zero_or_pos xs.length with hz|hz
 ·exact hz
 ·obtain ⟨us,b,off,_,_,had,_,_⟩:=h3 0 hz
  rw [hn] at had;cases had
theorem ZSW (xs:Cx) (hl:xs.length≤1000000):CallC Tryz.prog 110 [dS Zc xs] [] fun d' hp2=>∃ v,d'=dX v/\hp2=[ZW v 28 ZE xs]:=by
 refine ZL0 ?_
 (refine Z5 Tryz.func110 rfl rfl (fun hp=>?_);simp only [Tryz.ntmps110,List.length_cons,List.length_nil,List.length_append,List.length_map,Nat.reduceAdd,Nat.reduceSub,List.replicate_succ,List.replicate_zero,List.cons_append,List.nil_append,List.map_cons,List.map_nil,List.append_assoc])
 ((repeat' (first |  (refine ZEL 4 rfl fun b hb=>?_;dsimp only [z0,z1])|(apply WL.opN;exact yF;dsimp only [ZB,z0,z1])|refine WL.nil ?_|refine ZA fun Kx hK=>?_|(refine hK _ _ ?_;clear hK)|refine WC.region ?_ |  (apply ZEx ZBx ZE;(intro _;dsimp only [ZB,z0,z1]);all_goals (try infer_instance))|((first|apply WL.appK|apply WL.app1);(exact eD);exact OpD.t rfl;(exact oD);decide;(exact lD);(intro _;dsimp only [ZB,z0,z1]);all_goals (try infer_instance))|(apply WL.opN;(focus ((first|(apply ZHK;exact OpD.t rfl;(exact fun _ _ _ h=>nil_A h);exact ZDL;exact ZTf)|fail);all_goals infer_instance));dsimp only [ZB,z0,z1])|(apply WC.cond;(exact oD);all_goals (intro h;try exact xD))|refine WC.skip ?_|refine WC.ret ?_|refine ThenD.r ?_));all_goals (first|((repeat clear hK);(repeat clear Kx))))
 ·exact ⟨trivial,_,[],rfl,rfl,_,rfl,.inr ⟨rfl,hb h,rfl⟩⟩
 ·exact ⟨trivial,_,[_],rfl,rfl,_,rfl,.inl (by rw [List.nil_append])⟩
abbrev dEqL:Dat:=ZJm Tryz.prog (fun x:List Vx × List Vx=>[dS ZE x.1,dS ZE x.2]) (fun x=>dB (decide (x.1=x.2)))
set_option maxHeartbeats 4000000 in
theorem ZNg (xs:Cx) (v:Value) (hs:ZTK xs) (hl:xs.length≤1000000):CallC Tryz.prog 112 [dX v,dEqL] [ZW v 28 ZE xs] fun d' hp2=>∃ v zs,(AscL zs/\∀ u,u∈zs↔u∈xs)/\d'=dX v/\hp2=[ZW v 28 ZE zs]:=by
 (refine Z5 Tryz.func112 rfl rfl (fun hp=>?_);simp only [Tryz.ntmps112,List.length_cons,List.length_nil,List.length_append,List.length_map,Nat.reduceAdd,Nat.reduceSub,List.replicate_succ,List.replicate_zero,List.cons_append,List.nil_append,List.map_cons,List.map_nil,List.append_assoc])
 rcases Nat.lt_or_ge xs.length 2 with hx|hx
 ·have ha:AscL xs:=by
   match xs,hx with
   | [],_=>simp [AscL]
   | [x],_=>simp [AscL]
   | x::y::l,hx=>simp at hx;omega
  ((repeat' (first|((first|apply WL.opN|apply WD.opN);exact yF;dsimp only [ZB,z0,z1])|refine WL.nil ?_|refine ZA fun Kx hK=>?_|(refine hK _ _ ?_;clear hK)|refine WC.region ?_|((first|apply WL.opN|apply WD.opN);(focus ((first|exact ZCJ|exact ZBs|fail);all_goals infer_instance));dsimp only [ZB,z0,z1])|(apply ZC;(exact oD);all_goals (intro h;try exact xD))|refine WC.ret ?_|refine ThenD.r ?_));all_goals (first|((repeat clear hK);(repeat clear Kx))))
  exact ⟨trivial,_,[_],rfl,rfl,_,xs,⟨ha,fun _=>Iff.rfl⟩,rfl,rfl⟩
 refine ZKj (by omega) fun b cap hv hc1 hc2=>?_
 subst hv
 (repeat' (first|((first|apply WL.opN|apply WD.opN);exact yF;dsimp only [ZB,z0,z1])|refine WL.nil ?_|refine ZA fun Kx hK=>?_|(refine hK _ _ ?_;clear hK)|refine WC.region ?_|((first|apply WL.opN|apply WD.opN);(focus ((first|exact ZCJ|exact ZBs|fail);all_goals infer_instance));dsimp only [ZB,z0,z1])|(apply ZC;(exact oD);all_goals (intro h;try exact xD))|refine WC.skip ?_|refine WC.block ?_))
 simp only [maxLen] at hc2
 (refine WC.loopU (X:=Nat) (fun k=>[(5,dI (k:Int)),(4,dA),(6,dA),(7,dA),(12,dA),(13,dA),(14,dA),(15,dA),(16,dA),(17,dA),(18,dA),(19,dA),(20,dA),(21,dA),(22,dA),(23,dA),(24,dA),(25,dA),(26,dA),(27,dA),(28,dA),(29,dA),(30,dA),(31,dA),(32,dA),(33,dA),(34,dA),(35,dA),(36,dA),(37,dA),(38,dA),(39,dA),(40,dA),(41,dA),(42,dA),(43,dA),(44,dA),(45,dA),(46,dA),(47,dA),(48,dA),(49,dA),(50,dA),(51,dA),(52,dA),(53,dA),(54,dA),(55,dA),(56,dA),(57,dA),(58,dA),(59,dA),(60,dA),(61,dA),(62,dA),(63,dA),(64,dA)]) (fun k=>(hQ b xs.length cap 28 ZE xs::hp)) (fun k=>xs.length-k) (fun k=>1≤k/\k≤xs.length/\ZIP xs k (xs.take k)) 1 ?start ?frame0 ?objs0 ?round)
 case start=>exact ⟨Nat.le_refl _,by omega,ZKD (by omega)⟩
 case frame0=>((try dsimp only [ZK,z0,z1]);repeat (first|exact LeF.nil|refine ZD (k:=?_)))
 case objs0=>rfl
 case round =>
  rintro k ⟨h1,h2,h3⟩
  dsimp only [ZK,z0,z1]
  ((repeat' (first|((first|apply WL.opN|apply WD.opN);exact yF;dsimp only [ZB,z0,z1])|refine WL.nil ?_|refine WD.nil ?_|refine ZA fun Kx hK=>?_|(refine hK _ _ ?_;clear hK)|(refine Kont.skip ?_;clear hK)|refine WC.region ?_|(apply WC.draw;kernel_rfl;kernel_rfl)|((first|apply WL.opN|apply WD.opN);(focus ((first|(apply ZIU (k:=k) ZBx;exact OpD.t rfl;exact OpD.t rfl;rfl;omega)|(apply ZIU (k:=k-1) ZBx;exact OpD.t rfl;exact OpD.t rfl;omega;omega)|(apply ZFV (k:=k) ZCM;exact OpD.t rfl;exact .head _;omega;omega)|(apply ZFV (k:=k-1) ZCM;exact OpD.t rfl;exact .head _;omega;omega)|(apply ZD0 (x:=((xs[k],xs[k-1]):List Vx × List Vx));(exact OpD.t rfl);(exact aD))|(apply SY.fromQ (l:=k) ZBx;exact OpD.t rfl;exact OpD.t rfl;rfl;omega;omega)|exact ZCJ|exact ZC1|exact ZMe|exact ZBs|fail);all_goals infer_instance));dsimp only [ZB,z0,z1])|(apply ZC;(exact oD);all_goals (intro h;try exact xD))|refine WC.skip ?_|refine WC.ret ?_|refine WC.exit ?_|refine WC.block ?_|refine ThenD.n ?_));all_goals (first|refine WC.id ?_|((repeat clear hK);(repeat clear Kx))))
  ·have hk:k<xs.length:=by omega
   have hg:=ZG2 h3 h1 hk h
   (refine WC.loopU (X:=Nat × Nat × Cx) (fun x=>[(5,dI (x.2.1:Int)),(7,dI (x.1:Int)),(32,dA),(33,dA),(34,dA),(35,dA),(36,dA),(37,dA),(38,dA),(39,dA),(40,dA),(41,dA),(42,dA),(43,dA),(44,dA),(45,dA),(46,dA),(47,dA),(48,dA),(49,dA),(50,dA),(51,dA),(52,dA),(53,dA),(54,dA),(55,dA),(56,dA),(57,dA),(58,dA)]) (fun x=>(hQ b xs.length cap 28 ZE x.2.2::hp)) (fun x=>xs.length-k-x.1) (fun x=>1≤x.1/\k+x.1≤xs.length/\x.2.1+1≤k+x.1/\x.2.2.length=xs.length/\ZIP xs (k+x.1) (x.2.2.take x.2.1)/\x.2.2.drop (k+x.1-1)=xs.drop (k+x.1-1)) (1,k,xs) ?start ?frame0 ?objs0 ?round)
   case start=>exact ⟨Nat.le_refl _,by omega,Nat.le_refl _,rfl,hg,rfl⟩
   case frame0=>((try dsimp only [ZK,z0,z1]);repeat (first|exact LeF.nil|refine ZD (k:=?_)))
   case objs0=>rfl
   case round =>
    rintro ⟨m,i,ys⟩ ⟨q1,q2,q3,q4,q5,q6⟩
    dsimp only [ZK,z0,z1]
    simp only at q1 q2 q3 q4 q5 q6
    have hget:∀ (j:Nat) (hj:k+m-1≤j) (hj':j<xs.length),ys[j]'(by omega)=xs[j]:=fun j hj hj'=>by
     have e1:=congrArg (fun l=>l[j-(k+m-1)]?) q6
     simp only [List.getElem?_drop] at e1
     rw [show k+m-1+(j-(k+m-1))=j by omega,List.getElem?_eq_getElem (by omega),List.getElem?_eq_getElem hj'] at e1
     exact Option.some.inj e1
    ((repeat' (first|((first|apply WL.opN|apply WD.opN);exact yF;dsimp only [ZB,z0,z1])|refine WL.nil ?_|refine WD.nil ?_|refine ZA fun Kx hK=>?_|(refine hK _ _ ?_;clear hK)|(refine Kont.skip ?_;clear hK)|refine WC.region ?_|(apply WC.draw;kernel_rfl;kernel_rfl) |  (apply ZM1 (k:=i) ZCM;exact OpD.t rfl;exact OpD.t rfl;exact ZAb;omega;omega;dsimp only [ZB,z0,z1]) |  (apply ZMv (k:=i) (n:=xs.length-i) (x0:=([]:List Vx)) Tryz.underlying22 Tryz.zeroValue28 rfl (fun _ _=>ZEE (by decide));exact OpD.t rfl;omega;omega;omega;dsimp only [ZB,z0,z1]) |  (apply ZM2 (l:=i) ZBx;exact OpD.t rfl;exact OpD.t rfl;rfl;omega;omega;omega;(simp;omega);dsimp only [ZB,z0,z1])|((first|apply WL.opN|apply WD.opN);(focus ((first|(apply ZIU (k:=m) ZBx;exact OpD.t rfl;exact OpD.t rfl;rfl;omega)|(apply ZIU (k:=m-1) ZBx;exact OpD.t rfl;exact OpD.t rfl;omega;omega)|(apply ZIU (k:=i) ZBx;exact OpD.t rfl;exact OpD.t rfl;rfl;omega)|(apply ZFV (k:=k+m) ZCM;exact OpD.t rfl;exact .head _;omega;omega)|(apply ZFV (k:=k+m-1) ZCM;exact OpD.t rfl;exact .head _;omega;omega)|(apply ZD0 (x:=((ys[k+m],ys[k+m-1]):List Vx × List Vx));(exact OpD.t rfl);(exact aD))|(apply SY.fromQ (l:=i) ZBx;exact OpD.t rfl;exact OpD.t rfl;rfl;omega;omega)|exact ZCJ|exact ZMd|exact ZC1|exact ZMe|exact ZBs|fail);all_goals infer_instance));dsimp only [ZB,z0,z1])|(apply ZC;(exact oD);all_goals (intro h;try exact xD))|(apply ZL;(exact oD);all_goals (intro h;try exact xD))|refine WC.skip ?_|refine WC.ret ?_|refine WC.exit ?_|refine WC.block ?_|refine ThenD.n ?_|refine ThenD.r ?_|refine InBlockD.r ?_));all_goals (first|((repeat clear hK);(repeat clear Kx))))
    ·have hkm:k+m<xs.length:=by omega
     have e1:ys[k+m]'(by omega)=xs[k+m]:=hget _ (by omega) hkm
     have e2:ys[k+m-1]'(by omega)=xs[k+m-1]:=hget _ (by omega) (by omega)
     rw [e1,e2] at h
     rw [e1]
     (refine ⟨(m+1,i+1,ys.set i xs[k+m]),?_,by first|omega|(simp only;omega),rfl,?_⟩;rotate_left;((try dsimp only [ZK,z0,z1]);repeat (first|exact LeF.nil|refine ZD (k:=?_)));(try dsimp only))
     refine ⟨by omega,by omega,by omega,by simpa using q4,?_,?_⟩
     ·have:=ZG1 hs q5 (by omega) hkm h
      rw [Nat.add_assoc] at this
      have e3:(ys.set i xs[k+m]).take (i+1)=ys.take i++[xs[k+m]]:=by
       rw [ZP (by simp;omega),List.take_set_of_le (by omega)]
       simp
      rw [e3];exact this
     ·rw [show k+(m+1)-1=(k+m-1)+1 by omega]
      have e4:(ys.set i xs[k+m]).drop (k+m-1+1)=ys.drop (k+m-1+1):=by rw [List.drop_set_of_lt (by omega)]
      rw [e4]
      have:=congrArg (List.drop 1) q6
      simpa [List.drop_drop] using this
    ·have hkm:k+m<xs.length:=by omega
     have e1:ys[k+m]'(by omega)=xs[k+m]:=hget _ (by omega) hkm
     have e2:ys[k+m-1]'(by omega)=xs[k+m-1]:=hget _ (by omega) (by omega)
     rw [e1,e2] at h
     (refine ⟨(m+1,i,ys),?_,by first|omega|(simp only;omega),rfl,?_⟩;rotate_left;((try dsimp only [ZK,z0,z1]);repeat (first|exact LeF.nil|refine ZD (k:=?_)));(try dsimp only))
     refine ⟨by omega,by omega,by omega,q4,?_,?_⟩
     ·have:=ZG2 q5 (by omega) hkm h
      rw [Nat.add_assoc] at this
      exact this
     ·have:=congrArg (List.drop 1) q6
      rw [List.drop_drop,List.drop_drop] at this
      rw [show k+(m+1)-1=k+m-1+1 by omega]
      exact this
    ·have e1:(ys.take i++List.replicate (xs.length-i) ([]:List Vx)).take i=ys.take i:=by
      rw [List.take_left' (by simp;omega)]
     rw [e1]
     exact ⟨trivial,_,[_],rfl,rfl,_,_,ZI7 q5 (by omega),rfl,rfl⟩
  ·(refine ⟨k+1,?_,by first|omega|(simp only;omega),rfl,?_⟩;rotate_left;((try dsimp only [ZK,z0,z1]);repeat (first|exact LeF.nil|refine ZD (k:=?_)));(try dsimp only))
   refine ⟨by omega,by omega,?_⟩
   rw [ZP (by omega)]
   exact ZG1 hs h3 h1 (by omega) h
  ·have e1:xs.take k=xs:=List.take_of_length_le (by omega)
   rw [e1] at h3
   exact ⟨trivial,_,[_],rfl,rfl,_,xs,ZI7 h3 (by omega),rfl,rfl⟩
end
end Go.Proofs.YtlgmojhmmbhgfaaGreatDoor
