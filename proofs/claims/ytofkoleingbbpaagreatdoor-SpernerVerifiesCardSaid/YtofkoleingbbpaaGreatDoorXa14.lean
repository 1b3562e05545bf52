/- Part 14: walks by contracts, and plain laws. -/
import Derived.Shelf.SlSortCmp.NoneTotal
import Derived.Shelf.Spec.SlicesGrow
import Derived.Test.YtofkoleingbbpaaGreatDoorXa12
import Derived.Test.YtofkoleingbbpaaGreatDoorXa13
set_option linter.unusedVariables false
set_option linter.unusedSimpArgs false
set_option linter.unusedSectionVars false
set_option maxRecDepth 100000
set_option maxHeartbeats 64000000
namespace Go.Proofs.YtofkoleingbbpaaGreatDoor.M
section
open Go.RowKit

theorem ZT4 (x:Int):Fn Tryz.prog 145 [dI x] (dB false):=by
 (refine ZE Tryz.func145 rfl rfl ?_;simp only[Tryz.ntmps145,List.length_cons,List.length_nil,Nat.reduceAdd,Nat.reduceSub,List.replicate_succ,List.replicate_zero,List.cons_append,List.nil_append])
 ((repeat' (first|(apply ZF;(focus (apply SYG.yes;(exact Za rfl);(first|(apply SY.move <;> (exact oD))|(apply SY.assign <;> (exact oD)))));dsimp only[ZC,z0,z1])|refine WL.nil ?_|refine ZA fun Kx hK=>?_|(refine hK _ _ ?_;clear hK)|refine WC.region ?_|(apply ZF;(focus (apply SYG.yes;(exact Za rfl);((first|((first|apply SY.move|apply SY.assign|apply SY.neq) <;> (exact oD))|fail);all_goals infer_instance)));dsimp only[ZC,z0,z1])|refine WC.ret ?_));all_goals (first|((repeat clear hK);(repeat clear Kx))))
 all_goals ((refine⟨trivial,_,rfl,?_⟩;refine FinD.b ?_);simp)
theorem ZO6 (x y:Int):Fn Tryz.prog 121 [dI x,dI y] (dI (ZTh x y)):=by
 (refine ZE Tryz.func121 rfl rfl ?_;simp only[Tryz.ntmps121,List.length_cons,List.length_nil,Nat.reduceAdd,Nat.reduceSub,List.replicate_succ,List.replicate_zero,List.cons_append,List.nil_append])
 ((repeat' (first|(apply ZF;(focus (apply SYG.yes;(exact Za rfl);(first|(apply SY.move <;> (exact oD))|(apply SY.assign <;> (exact oD)))));dsimp only[ZC,z0,z1])|refine WL.nil ?_|refine ZA fun Kx hK=>?_|(refine hK _ _ ?_;clear hK)|refine WC.region ?_|(apply ZF;(focus (apply SYG.yes;(exact Za rfl);((first|(apply SY.call (ZT4 _) Tryz.call145;(exact aD))|((first|apply SY.move|apply SY.assign|apply SY.lss|apply SY.gtr) <;> (exact oD))|fail);all_goals infer_instance)));dsimp only[ZC,z0,z1])|(apply ZQ;(exact oD);(with_reducible rfl))|(apply ZB;(exact oD);(all_goals intro h);(all_goals try (exfalso;first|omega|contradiction)))|refine WC.skip ?_|refine WC.ret ?_|refine ThenD.r ?_));all_goals (first|((repeat clear hK);(repeat clear Kx))))
 all_goals ((refine⟨trivial,_,rfl,?_⟩;refine FinD.i ?_);unfold ZTh;simp[*])
 all_goals omega
theorem ZT6 (l:List Int):Fn Tryz.prog 120 [dS ZAR l] (dI (orI l)):=by
 (refine ZE Tryz.func120 rfl rfl ?_;simp only[Tryz.ntmps120,List.length_cons,List.length_nil,Nat.reduceAdd,Nat.reduceSub,List.replicate_succ,List.replicate_zero,List.cons_append,List.nil_append])
 (repeat' (first|(apply ZF;(focus (apply SYG.yes;(exact Za rfl);(first|(apply SY.move <;> (exact oD))|(apply SY.assign <;> (exact oD))|(apply SY.load;(exact tD);(exact OpD.t rfl)))));dsimp only[ZC,z0,z1])|refine WL.nil ?_|refine ZA fun Kx hK=>?_|(refine hK _ _ ?_;clear hK)|refine WC.region ?_|(apply ZF;(focus (apply SYG.yes;(exact Za rfl);((first|(apply SY.len;(exact oD);(exact nD);(exact uD))|fail);all_goals infer_instance)));dsimp only[ZC,z0,z1])|refine WC.block ?_))
 (first|refine ZR (t:=0) rfl ZEH fun hl0=>?_|refine ZR (t:=0) rfl ZDu fun hl0=>?_);simp only[maxLen] at hl0
 (refine WC.loopU (X:=Nat) (fun k=>[(8,dI (k:Int)),(2,dA),(5,dA),(9,dA),(10,dA),(11,dA),(12,dA),(13,dA),(14,dA),(15,dA),(16,dA)]) (fun k=>[]) (fun k=>l.length-k) (fun k=>k≤l.length/\orI l=orI (l.drop k)) 0 ?start ?frame0 ?objs0 ?round)
 case start=>exact⟨Nat.zero_le _,rfl⟩
 case frame0=>exact zFr
 case objs0=>rfl
 case round =>
  rintro k ⟨h1,h2⟩;dsimp only[ZL,z0,z1];((repeat' (first|(apply ZF;(focus (apply SYG.yes;(exact Za rfl);(first|(apply SY.move <;> (exact oD))|(apply SY.assign <;> (exact oD))|(apply SY.load;(exact tD);(exact OpD.t rfl)))));dsimp only[ZC,z0,z1])|refine WL.nil ?_|refine ZA fun Kx hK=>?_|(refine hK _ _ ?_;clear hK)|(refine Kont.skip ?_;clear hK)|refine WC.region ?_|(apply ZF;(focus (apply SYG.yes;(exact Za rfl);((first|((first|apply SY.move|apply SY.assign|apply SY.lss|apply SY.neq) <;> (exact oD))|((first|apply SY.add) <;> first|exact oD|omega)|(apply SY.ix;(exact eD);(exact oD);(exact oD);exact kD)|fail);all_goals infer_instance)));dsimp only[ZC,z0,z1])|(apply ZB;(exact oD);(all_goals intro h);(all_goals try (exfalso;first|omega|contradiction)))|(apply ZG;(exact oD);(all_goals intro h);(all_goals try (exfalso;first|omega|contradiction)))|refine WC.skip ?_|refine WC.ret ?_|refine WC.exit ?_|refine WC.block ?_|refine ThenD.n ?_|refine ThenD.r ?_|refine InBlockD.r ?_));all_goals (first|((repeat clear hK);(repeat clear Kx))))
  ·(refine⟨trivial,_,rfl,?_⟩;refine FinD.i ?_)
   rw[h2,ZGR (by omega),if_neg h]
  ·(refine zNx (k+1) ?_;(try dsimp only))
   exact⟨by omega,by rw[h2,ZGR (by omega),if_pos h]⟩
  ·(refine⟨trivial,_,rfl,?_⟩;refine FinD.i ?_)
   rw[h2,List.drop_of_length_le (by omega)];rfl
theorem ZI0 (x y:Vx):Fn Tryz.prog 79 [dS RV x,dS RV y] (dI (ZAd x y)):=by
 (refine ZE Tryz.func79 rfl rfl ?_;simp only[Tryz.ntmps79,List.length_cons,List.length_nil,Nat.reduceAdd,Nat.reduceSub,List.replicate_succ,List.replicate_zero,List.cons_append,List.nil_append])
 ((repeat' (first|((first|apply ZF|apply WD.op);(focus (apply SYG.yes;(exact Za rfl);(first|(apply SY.assign <;> (exact oD))|(apply SY.load;(exact tD);(exact OpD.t rfl)))));dsimp only[ZC,z0,z1])|refine WL.nil ?_|refine WD.nil ?_|refine ZA fun Kx hK=>?_|(refine hK _ _ ?_;clear hK)|refine WC.region ?_|(apply WC.draw;kernel_rfl;kernel_rfl)|((first|apply ZF|apply WD.op);(focus (apply SYG.yes;(exact Za rfl);((first|(apply SY.call (ZO6 _ _) Tryz.call121;(exact aD))|(apply SY.call (ZT6 [_,_]) Tryz.call120;(exact aD))|(first|(apply SY.fld0 vxT <;> (exact oD))|(apply SY.fld1 vxT <;> (exact oD)))|(apply SY.build1';(exact eD);((try simp only[List.map_cons,List.map_nil]);(repeat (first|exact Zp|(apply Zo;(first|exact OpD.t rfl|exact OpD.i|exact OpD.b|exact OpD.tle rfl (by first|exact ZN|exact ZH (by decide))|exact⟨ZN⟩|exact⟨ZH (by decide)⟩)))));rfl;rfl;(intro _;first|exact ZAf|exact ZAT|exact ZAI|exact shape_B);(exact(by simp)))|(apply SY.box;(exact oD);(exact hD))|fail);all_goals infer_instance)));dsimp only[ZC,z0,z1])|refine WC.ret ?_));all_goals (first|((repeat clear hK);(repeat clear Kx))))
 all_goals ((refine⟨trivial,_,rfl,?_⟩;refine FinD.i ?_);exact ZO8 _ _)
theorem Ext.grow {w w':World} (h:Ext w w'):∃q os',w'=Go.Sort.grow (w.drewN q) os':=by
 refine⟨w'.drawn-w.drawn,w'.heap.extract w.heap.size w'.heap.size,?_⟩;have hd:=h.d;have hs:=h.b.size;have hh:w'.heap=w.heap++w'.heap.extract w.heap.size w'.heap.size:=by
  apply Array.ext
  ·simp;omega
  ·intro i h1 h2;by_cases hi:i<w.heap.size
   ·have:=h.b.block i hi;rw[Array.getElem?_eq_getElem h1,Array.getElem?_eq_getElem hi] at this;rw[Array.getElem_append_left hi];exact Option.some.inj this
   ·rw[Array.getElem_append_right (by omega),Array.getElem_extract];congr 1;omega
 unfold Go.Sort.grow World.drewN;cases w';cases w;simp only at hd hh;have h1:=h.b.os;have h2:=h.b.tape;have h3:=h.b.output;simp only at h1 h2 h3;subst h1;subst h2;subst h3;simp only[World.mk.injEq,true_and,and_true];exact⟨hh,by omega⟩
theorem ZT8 (x y:Vx) (w:World):Calls Tryz.prog 79 #[.agg #[.int .i64 x.1,.int .i64 x.2],.agg #[.int .i64 y.1,.int .i64 y.2]] w fun e w'=>e = .returned (.int .i64 (ZAd x y))/\∃q os',w'=Go.Sort.grow (w.drewN q) os':=by
 have:=(ZI0 x y).out (fun _=>True) w [.agg #[.int .i64 x.1,.int .i64 x.2],.agg #[.int .i64 y.1,.int .i64 y.2]] rfl (fun i d hd=>by
  match i with
  | 0=>cases hd;rfl
  | 1=>cases hd;rfl
  | i+2=>simp at hd)
 exact this.mono fun e w' ⟨v,h1,h2,h3⟩=>⟨by rw[h1];exact congrArg _ h3,h2.grow⟩

end
end Go.Proofs.YtofkoleingbbpaaGreatDoor.M
namespace Go.Proofs
section
open Go.Shelf
def Tryz.sortV_ren:Go.Shelf.Ren:=⟨fun|6=>148|15=>161|14=>160|28=>177|29=>178|20=>169|21=>170|22=>171|23=>172|24=>173|25=>174|26=>175|27=>176|46=>191|47=>192|48=>193|49=>194|50=>195|57=>201|n=>n,fun|22=>22|24=>77|25=>79|3=>3|39=>177|0=>0|53=>228|55=>207|4=>4|46=>222|45=>221|50=>132|5=>5|9=>9|66=>238|70=>242|76=>246|77=>156|n=>n,fun|n=>n⟩
theorem Tryz.sortV:Go.Proofs.SlLaysF0.n6 Tryz.prog Tryz.sortV_ren:={
 mixed:=by kernel_rfl
 f6:=⟨Tryz.f148.name,by decide,Tryz.func148.trans (congrArg some (by kernel_rfl))⟩
 f14:=⟨Tryz.f160.name,by decide,Tryz.func160.trans (congrArg some (by kernel_rfl))⟩
 f15:=Tryz.func161.trans (congrArg some (by kernel_rfl))
 f20:=⟨Tryz.f169.name,by decide,Tryz.func169.trans (congrArg some (by kernel_rfl))⟩
 f21:=⟨Tryz.f170.name,by decide,Tryz.func170.trans (congrArg some (by kernel_rfl))⟩
 f22:=⟨Tryz.f171.name,by decide,Tryz.func171.trans (congrArg some (by kernel_rfl))⟩
 f23:=⟨Tryz.f172.name,by decide,Tryz.func172.trans (congrArg some (by kernel_rfl))⟩
 f24:=⟨Tryz.f173.name,by decide,Tryz.func173.trans (congrArg some (by kernel_rfl))⟩
 f25:=⟨Tryz.f174.name,by decide,Tryz.func174.trans (congrArg some (by kernel_rfl))⟩
 f26:=⟨Tryz.f175.name,by decide,Tryz.func175.trans (congrArg some (by kernel_rfl))⟩
 f27:=⟨Tryz.f176.name,by decide,Tryz.func176.trans (congrArg some (by kernel_rfl))⟩
 f28:=Tryz.func177.trans (congrArg some (by kernel_rfl))
 f29:=Tryz.func178.trans (congrArg some (by kernel_rfl))
 f46:=⟨Tryz.f191.name,by decide,Tryz.func191.trans (congrArg some (by kernel_rfl))⟩
 f47:=Tryz.func192.trans (congrArg some (by kernel_rfl))
 f48:=Tryz.func193.trans (congrArg some (by kernel_rfl))
 f49:=⟨Tryz.f194.name,by decide,Tryz.func194.trans (congrArg some (by kernel_rfl))⟩
 f50:=⟨Tryz.f195.name,by decide,Tryz.func195.trans (congrArg some (by kernel_rfl))⟩
 f57:=⟨Tryz.f201.name,by decide,Tryz.func201.trans (congrArg some (by kernel_rfl))⟩
 t0:=Tryz.underlying0
 a0:=Tryz.isAgg0
 z0:=Tryz.sizeOf0
 v0:=Tryz.zeroValue0
 t3:=Tryz.underlying3
 a3:=Tryz.isAgg3
 z3:=Tryz.sizeOf3
 v3:=Tryz.zeroValue3
 t4:=Tryz.underlying4
 a4:=Tryz.isAgg4
 z4:=Tryz.sizeOf4
 v4:=Tryz.zeroValue4
 t5:=Tryz.underlying5
 a5:=Tryz.isAgg5
 z5:=Tryz.sizeOf5
 v5:=Tryz.zeroValue5
 t9:=Tryz.underlying9
 a9:=Tryz.isAgg9
 z9:=Tryz.sizeOf9
 v9:=Tryz.zeroValue9
 t22:=Tryz.underlying22
 a22:=Tryz.isAgg22
 z22:=Tryz.sizeOf22
 v22:=Tryz.zeroValue22
 t25:=Tryz.underlying79
 a25:=Tryz.isAgg79
 z25:=Tryz.sizeOf79
 v25:=Tryz.zeroValue79
 t39:=Tryz.underlying177
 a39:=Tryz.isAgg177
 z39:=Tryz.sizeOf177
 v39:=Tryz.zeroValue177
 t45:=Tryz.underlying221
 a45:=Tryz.isAgg221
 z45:=Tryz.sizeOf221
 v45:=Tryz.zeroValue221
 t46:=Tryz.underlying222
 a46:=Tryz.isAgg222
 z46:=Tryz.sizeOf222
 v46:=Tryz.zeroValue222
 t50:=Tryz.underlying132
 a50:=Tryz.isAgg132
 z50:=Tryz.sizeOf132
 v50:=Tryz.zeroValue132
 t53:=Tryz.underlying228
 a53:=Tryz.isAgg228
 z53:=Tryz.sizeOf228
 v53:=Tryz.zeroValue228
 t55:=Tryz.underlying207
 a55:=Tryz.isAgg207
 z55:=Tryz.sizeOf207
 v55:=Tryz.zeroValue207
 t66:=Tryz.underlying238
 a66:=Tryz.isAgg238
 z66:=Tryz.sizeOf238
 v66:=Tryz.zeroValue238
 t70:=Tryz.underlying242
 a70:=Tryz.isAgg242
 z70:=Tryz.sizeOf242
 v70:=Tryz.zeroValue242
 t76:=Tryz.underlying246
 a76:=Tryz.isAgg246
 z76:=Tryz.sizeOf246
 v76:=Tryz.zeroValue246
 t77:=Tryz.underlying156
 a77:=Tryz.isAgg156
 z77:=Tryz.sizeOf156
 v77:=Tryz.zeroValue156 }
end
end Go.Proofs
namespace Go.Proofs.YtofkoleingbbpaaGreatDoor
section
open Go.RowKit Go.Sort Go.Shelf

theorem swoV:SWO (ltOf ZAd) where
 irrefl x:=by simp[ltOf,ZBy.2 (rfl:x=x)]
 trans x y z h h':=by
  simp only[ltOf,decide_eq_true_eq] at *;exact ZBC h h'
 ntrans x y z h h':=by
  simp only[ltOf,decide_eq_false_iff_not] at *;intro hc;rcases ZBl x y with k|k|k
  ·omega
  ·have:=ZBC (a:=y) (b:=x) (c:=z) (by omega) hc;exact h' this
  ·exact h' (k.2.2 ▸ hc)
theorem ZKC {d:Array Vx}:(flatK ZCq 2 d).toList=(d.toList.map ZCq).flatten:=by
 apply List.ext_getElem?;intro t;have hl:∀u∈d.toList.map ZCq,u.length=2:=fun u hu=>by obtain⟨x,_,rfl⟩:=List.mem_map.1 hu;rfl
 have hlen:((d.toList.map ZCq).flatten).length=d.size*2:=by
  rw[List.length_flatten];have:(List.map List.length (d.toList.map ZCq))=List.replicate d.size 2:=by
   rw[List.eq_replicate_iff];refine⟨by simp,fun b hb=>?_⟩;obtain⟨u,hu,rfl⟩:=List.mem_map.1 hb;exact hl u hu
  rw[this];simp
 by_cases ht:t<d.size*2
 ·have h1:t / 2<(d.toList.map ZCq).length:=by simp;omega
  have h2:t % 2<2:=Nat.mod_lt _ (by decide);have h3:((d.toList.map ZCq)[t / 2]'h1)[t % 2]?=some ((ZCq (d[t / 2]'(by omega)))[t % 2]'(by simp[ZCq];omega)):=by
   simp
  have h4:=Zu hl h1 h3;have h5:t / 2*2+t % 2=t:=by omega
  rw[h5] at h4;rw[h4];have h6:=get_flatK ZCq 2 d t ht;rw[Array.getElem?_toList];have h7:t<(flatK ZCq 2 d).size:=by simp;omega
  rw[getElem!_pos _ t h7,getElem!_pos d (t / 2) (by omega),getElem!_pos _ (t % 2) (by simp[ZCq];omega)] at h6;rw[Array.getElem?_eq_getElem h7,h6]
 ·rw[List.getElem?_eq_none (by simp;omega),List.getElem?_eq_none (by omega)]
section
variable {w:World} {g n cap:Nat} {os:Array Obj} {cur:Array Value} {e:TypeId} {fz:Nat × Nat}
theorem ZKK {F:Array Value} (hb:w.heap[g]?=some (.cells cur e (0,0))) (ht:cur.toList.take F.size=F.toList):Holds id w g 0 F:=by
 intro j hj;refine⟨?_,by simp[World.frozen?,hb]⟩;have h1:(cur.toList.take F.size)[j]?=F.toList[j]?:=by rw[ht]
 rw[List.getElem?_take_of_lt hj] at h1;simp only[World.cell?,hb,Nat.zero_add];simp only[Option.isSome_none,Bool.false_eq_true,if_false];rw[<- Array.getElem?_toList,h1,getElem!_pos _ j hj];simp[hj]
theorem ZKJ (F:Array Value) (hb:w.heap[g]?=some (.cells cur e fz)) :
  (grow (putRow id (Sort.ahead w n) g 0 F) os).heap[g]?=some (.cells (putCells id 0 F cur) e fz):=by
 have hg:g<w.heap.size:=(Array.getElem?_eq_some_iff.1 hb).1;rw[heap_grow_old _ _ (by simpa using hg)];simp[putRow,mapBlock,Sort.ahead,Array.getElem?_modify,hb,onCells]
theorem ZHB (F:Array Value):w.grownBy (grow (putRow id (Sort.ahead w n) g 0 F) os) (some g):=by
 refine⟨rfl,rfl,rfl,by simp,fun k hk hne=>?_⟩;rw[heap_grow_old _ _ (by simpa using hk)];have:g≠k:=fun e=>hne (by rw[e]);simp[putRow,mapBlock,Sort.ahead,Array.getElem?_modify,this]
theorem ZHm (cur F:Array Value) (h:F.size≤cur.size):(putCells id 0 F cur).toList.take F.size=F.toList:=by
 apply List.ext_getElem?;intro j;by_cases hj:j<F.size
 ·rw[List.getElem?_take_of_lt hj,Array.getElem?_toList];simp[putCells,hj,show j<cur.size by omega]
 ·rw[List.getElem?_take_eq_none (by omega),List.getElem?_eq_none (by simp;omega)]
end
section
variable {ops:Array Oper} {hp:List HObj} {fr:List Dat} {Q:Z5} {rest:List Oper} {dst:Option Tmp} {ty:TypeId} {ps:String} {af:Array Edge}
theorem ZJj {cf:FuncId} (hce:ZBR Tryz.prog cf) (hcx:∀(x y:Vx) (w:World),Calls Tryz.prog cf #[.agg #[.int .i64 x.1,.int .i64 x.2],.agg #[.int .i64 y.1,.int .i64 y.2]] w fun e w'=>e = .returned (.int .i64 (ZAd x y))/\∃q os',w'=Go.Sort.grow (w.drewN q) os') {x:Operand} {v:Value} {e:TypeId} {xs:List Vx} {ats:Array TypeId} (hx:OpD fr x (dX v)) (hlen:xs.length<4611686018427387904)
  (h:∀ys:List Vx,ys.Perm xs->ys.Pairwise (fun a b=>¬ ZAd b a<0)->WL Tryz.prog ops Q rest (ZC fr dst dA) (Z0 v e 2 RV ys::hp)) :
  WL Tryz.prog ops Q (⟨dst,.call { callee:=.value (.func 148),args:=#[x,.func cf],argTypes:=ats },ty,ps,af,none⟩::rest) fr (Z0 v e 2 RV xs::hp):=by
 refine WL.of fun P0 B w0 w a hh hf=>?_;have hok:=hh.ok (Z0 v e 2 RV xs) (by simp);obtain⟨us,h1,h2,h0,h3,h4⟩:=hok;have hus:=ZLs h1 h4;subst hus;have hev:a.eval x=v:=hx.ev hf;obtain⟨hfl,hv⟩:=h3;by_cases hne0:xs=[]
 ·subst hne0;have hv0:∃p cap,v = .slice p 0 cap:=by
   rcases hv with ⟨hv,_⟩|⟨g,cap,cur,hv,_⟩
   ·exact⟨_,_,hv⟩
   ·exact⟨_,_,hv⟩
  obtain⟨p,cap,hv0⟩:=hv0;have hcon:=AnyF.slices_SortFunc_none (P:=Tryz.prog) (ρ:=Tryz.sortV_ren) Tryz.sortV p cap (.func (.func cf) #[] #[]) w;change Calls Tryz.prog 148 _ _ _ at hcon;have hrun:(execOp a.eval ⟨dst,.call { callee:=.value (.func 148),args:=#[x,.func cf],argTypes:=ats },ty,ps,af,none⟩).run Tryz.prog w = .ok (.enter 148 #[v,.func (.func cf) #[] #[]]) w:=by
   unfold execOp;simp only[resolve];have he:(#[x,Operand.func cf]:Array Operand).map a.eval=#[v,.func (.func cf) #[] #[]]:=by simp[hev];rfl
   rw[he];simp[Act.eval,Deferred.ofValue,invoke,Tryz.call148]
  refine wpList_plain rfl fun K hK=>?_;unfold Oper.wp;rw[hrun,hv0];refine hcon.mono fun e' w' ⟨he,hw'⟩=>?_;subst he;subst hw';exact hK _ _ ((h [] (List.Perm.refl _) List.Pairwise.nil).on hh (hf.put (d:=dA) trivial))
 have hne:0<xs.length:=List.length_pos_iff.2 hne0;rcases hv with ⟨_,hz⟩|⟨g,cap,cur,hv,hB,hg,hc1,hc2,hc3,hc4⟩
 ·omega
 have hgb:g<w.heap.size:=(Array.getElem?_eq_some_iff.1 hg).1;have hF:(flatK ZCq 2 xs.toArray).toList=(xs.map ZCq).flatten:=by rw[ZKC]
 have hFs:(flatK ZCq 2 xs.toArray).size=xs.length*2:=by simp
 have hH:HoldsK ZCq 2 w g 0 xs.toArray:=ZKK hg (by rw[hFs,hF];exact hc4);have hcon:=AnyQ.slices_SortFunc Tryz.sortV 2 Tryz.isAgg77 Tryz.sizeOf77 ZCq (fun _=>rfl) (fun x v hv=>by simp[ZCq] at hv;rcases hv with rfl|rfl <;> rfl) ZAd swoV cf #[] g 0 cap xs.toArray w hce
  (fun _ _ _ _ x y=>hcx x y _) hH hgb (by simpa using hlen)
 change Calls Tryz.prog 148 _ _ _ at hcon;subst hv;have hrun:(execOp a.eval ⟨dst,.call { callee:=.value (.func 148),args:=#[x,.func cf],argTypes:=ats },ty,ps,af,none⟩).run Tryz.prog w = .ok (.enter 148 #[.slice (some ⟨g,0,none⟩) xs.toArray.size cap,.func (.func cf) #[] #[]]) w:=by
  unfold execOp;simp only[resolve];have he:(#[x,Operand.func cf]:Array Operand).map a.eval=#[.slice (some ⟨g,0,none⟩) xs.toArray.size cap,.func (.func cf) #[] #[]]:=by simp[hev];rfl
  rw[he];simp[Act.eval,Deferred.ofValue,invoke,Tryz.call148]
 refine wpList_plain rfl fun K hK=>?_;unfold Oper.wp;rw[hrun];refine hcon.mono fun e' w' ⟨he,d',n,os,hp1,hs,hw'⟩=>?_;subst he;subst hw';obtain⟨q1,_,q3⟩:=hp1;have hsz:d'.size=xs.length:=by simpa using q1
 have hperm:d'.toList.Perm xs:=by
  have:xs.toArray.size=d'.size:=by simp[hsz]
  rw[this] at q3;have e1:d'.extract 0 d'.size=d':=by simp
  have e2:xs.toArray.extract 0 d'.size=xs.toArray:=by rw[hsz];simp
  rw[e1,e2] at q3;exact q3
 have hsort:d'.toList.Pairwise (fun a b=>¬ ZAd b a<0):=by
  rw[List.pairwise_iff_getElem];intro i j hi hj hij;have hi':i<d'.size:=by simpa using hi
  have hj':j<d'.size:=by simpa using hj
  have:=hs i j (Nat.zero_le _) hij (by simp;omega);rw[getElem!_pos d' i hi',getElem!_pos d' j hj'] at this;simpa[ltOf] using this
 have hF':(flatK ZCq 2 d').toList=(d'.toList.map ZCq).flatten:=ZKC;have hFs':(flatK ZCq 2 d').size=d'.toList.length*2:=by simp
 have hgr:w.grownBy (sortWorldK ZCq 2 w g 0 n d' os) (Z0 (.slice (some ⟨g,0,none⟩) xs.length cap) e 2 RV xs).blk:=ZHB _;have hlen':d'.toList.length=xs.length:=by simpa using hsz
 have hok:(Z0 (.slice (some ⟨g,0,none⟩) xs.length cap) e 2 RV d'.toList).ok (fun k=>Imm P0 B (Z0 (.slice (some ⟨g,0,none⟩) xs.length cap) e 2 RV xs::hp) k/\k<w.heap.size) (sortWorldK ZCq 2 w g 0 n d' os):=by
  refine⟨d'.toList.map ZCq,by simp,fun u hu=>?_,by decide,⟨?_,.inr ⟨g,cap,putCells _root_.id 0 (flatK ZCq 2 d') cur,?_,hB,ZKJ _ hg,by omega,hc2,by simp[putCells,hc3],?_⟩⟩,fun k h h'=>?_⟩
  ·obtain⟨y,_,rfl⟩:=List.mem_map.1 hu;exact⟨rfl,by simp[ZCq,Value.oneCell']⟩
  ·rw[<- hF',Array.length_toList,hFs']
  ·rw[hlen']
  ·rw[<- hFs',<- hF'];exact ZHm _ _ (by rw[hFs',hlen',hc3];exact Nat.mul_le_mul_right _ hc1)
  ·show Value.agg _=_;rw[List.getElem_map];rfl
 exact hK _ _ ((h d'.toList hperm hsort).on (hh.write hgr (.inl rfl) hok) (Fr.put (hf.mono fun _ _ hd=>Ze (o':=Z0 (.slice (some ⟨g,0,none⟩) xs.length cap) e 2 RV d'.toList) hgr (.inl rfl) hd) (d:=dA) trivial))
theorem ZRN {x:Operand} {v:Value} {e:TypeId} {xs:List Vx} {ats:Array TypeId} (hx:OpD fr x (dX v)) (_hne:0<xs.length) (hlen:xs.length<4611686018427387904)
  (h:∀ys:List Vx,ys.Perm xs->ys.Pairwise (fun a b=>¬ ZAd b a<0)->WL Tryz.prog ops Q rest (ZC fr dst dA) (Z0 v e 2 RV ys::hp)) :
  WL Tryz.prog ops Q (⟨dst,.call { callee:=.value (.func 148),args:=#[x,.func 79],argTypes:=ats },ty,ps,af,none⟩::rest) fr (Z0 v e 2 RV xs::hp) :=
 ZJj Tryz.call79 (fun x y w=>M.ZT8 x y w) hx hlen h
end
end
section
open Go.RowKit

theorem of_p (l:List Vx) (hl:l.length≤100):Fn Tryz.prog 130 [dS ZM l] (dT [dS ZM (ofV l).1,dI (ofV l).2]):=by
 (refine Z9 Tryz.func130 rfl rfl ?_;simp only[Tryz.ntmps130,List.length_cons,List.length_nil,Nat.reduceAdd,Nat.reduceSub,List.replicate_succ,List.replicate_zero,List.cons_append,List.nil_append])
 ((repeat' (first|(apply WL.opN;exact yF;dsimp only[ZC,z0,z1])|refine WL.nil ?_|refine ZA fun Kx hK=>?_|(refine hK _ _ ?_;clear hK)|refine WC.region ?_|(apply WL.opN;(focus ((first|exact ZHe|exact ZA3|fail);all_goals infer_instance));dsimp only[ZC,z0,z1])|(apply ZB;(exact oD);all_goals (intro h;try exact xD))|refine WC.skip ?_|refine WC.ret ?_|refine WC.block ?_|refine ThenD.r ?_));all_goals (first|refine WC.id ?_|((repeat clear hK);(repeat clear Kx))))
 ·(refine⟨trivial,⟨_,rfl,?_⟩,_,rfl,?_⟩ <;> (first|refine FinD.i ?_|refine ZFO (by decide) ?_)) <;> ((unfold ofV;(repeat' split)) <;> (first|rfl|(exfalso;first|contradiction|omega)|(simp_all;done)))
 ·have hne:l.length≠0:=by omega
  (refine WC.loopU (X:=Nat) (fun k=>[(12,dI (k:Int)),(2,dA),(3,dA),(5,dA),(13,dA),(14,dA),(15,dA),(16,dA),(17,dA),(18,dA),(19,dA)]) (fun k=>[]) (fun k=>l.length-k) (fun k=>k≤l.length/\(l.take k).all ZDL=true) 0 ?start ?frame0 ?objs0 ?round)
  case start=>simp
  case frame0=>exact zFr
  case objs0=>rfl
  case round =>
   rintro k ⟨h1,h2⟩;dsimp only[ZL,z0,z1];((repeat' (first|(apply WL.opN;exact yF;dsimp only[ZC,z0,z1])|refine WL.nil ?_|refine ZA fun Kx hK=>?_|(refine hK _ _ ?_;clear hK)|(refine Kont.skip ?_;clear hK)|refine WC.region ?_ |  (apply ZOb (by decide) (ZTf l (by omega)) Tryz.call47;(exact aD);intro vc;dsimp only[ZC,z0,z1]) |  (apply ZRN;exact OpD.t rfl;omega;omega;intro ys hperm hsort;dsimp only[ZC,z0,z1]) |  (refine ZL5 (ZJ2 ys vc hsort (by rw[hperm.length_eq];omega)) Tryz.call150 ?_ ?_;(exact aD);intro vd zs hzs;dsimp only[ZC,z0,z1])|(apply WL.alloc;(exact tzV);(first|exact Zw rfl|exact ZAU);(intro _;dsimp only[ZC,z0,z1]))|(apply ZP;(exact tD);rfl;(exact oD);(exact hD);dsimp only[ZC,z0,z1])|(apply WL.opN;(focus ((first|(apply SY.call (ZH8 _) Tryz.call78;(exact aD))|exact ZBF|exact ZFN|exact ZLC|exact ZBg|exact ZA3|exact ZT|fail);all_goals infer_instance));dsimp only[ZC,z0,z1])|(apply ZB;(exact oD);all_goals (intro h;try exact xD))|(apply ZO;(exact oD);all_goals (intro h;try exact xD))|refine WC.skip ?_|refine WC.ret ?_|refine WC.exit ?_|refine WC.block ?_|refine ThenD.n ?_|refine ThenD.r ?_|refine InBlockD.r ?_));all_goals (first|((repeat clear hK);(repeat clear Kx))))
   ·have h3:l.all ZDL=false:=by rw[List.all_eq_false];exact⟨l[k],List.getElem_mem _,by simp[h]⟩
    (refine⟨trivial,⟨_,rfl,?_⟩,_,rfl,?_⟩ <;> (first|refine FinD.i ?_|refine ZFO (by decide) ?_)) <;> ((unfold ofV;(repeat' split)) <;> (first|rfl|(exfalso;first|contradiction|omega)|(simp_all;done)))
   ·(refine zNx (k+1) ?_;(try dsimp only))
    exact⟨by omega,by rw[ZIT (by omega),h2,h];rfl⟩
   all_goals
    have h3:l.all ZDL=true:=by rw[List.take_of_length_le (by omega)] at h2;exact h2
    have hz:zs=ZC2 [] l:=asc_ext hzs.1 (ZIW (by simp[Asc])) fun u=>by rw[hzs.2,ZGQ,hperm.mem_iff];simp
    clear h2;subst hz;(refine⟨trivial,⟨_,rfl,?_⟩,_,rfl,?_⟩ <;> (first|refine FinD.i ?_|refine ZBi (.head _) ?_|refine ZFO (by decide) ?_)) <;> ((unfold ofV;(repeat' split)) <;> (first|rfl|(exfalso;first|contradiction|omega)|(simp_all;done)))

end
end Go.Proofs.YtofkoleingbbpaaGreatDoor
namespace Go.Proofs
section
open Go.Shelf
def Tryz.growV_ren:Go.Shelf.Ren:=⟨fun|4=>159|n=>n,fun|22=>22|25=>77|3=>3|4=>4|9=>9|20=>20|0=>0|2=>3|n=>n,fun|n=>n⟩
theorem Tryz.growV:Go.Proofs.Lays8.n4 Tryz.prog Tryz.growV_ren:={
 mixed:=by kernel_rfl
 f4:=⟨Tryz.f159.name,by decide,Tryz.func159.trans (congrArg some (by kernel_rfl))⟩
 t0:=Tryz.underlying0
 a0:=Tryz.isAgg0
 z0:=Tryz.sizeOf0
 v0:=Tryz.zeroValue0
 t3:=Tryz.underlying3
 a3:=Tryz.isAgg3
 z3:=Tryz.sizeOf3
 v3:=Tryz.zeroValue3
 t4:=Tryz.underlying4
 a4:=Tryz.isAgg4
 z4:=Tryz.sizeOf4
 v4:=Tryz.zeroValue4
 t9:=Tryz.underlying9
 a9:=Tryz.isAgg9
 z9:=Tryz.sizeOf9
 v9:=Tryz.zeroValue9
 t20:=Tryz.underlying20
 a20:=Tryz.isAgg20
 z20:=Tryz.sizeOf20
 v20:=Tryz.zeroValue20
 t22:=Tryz.underlying22
 a22:=Tryz.isAgg22
 z22:=Tryz.sizeOf22
 v22:=Tryz.zeroValue22 }
end
end Go.Proofs
namespace Go.Proofs.YtofkoleingbbpaaGreatDoor
section
open Go.RowKit

section
variable {ops:Array Oper} {hp:List HObj} {fr:List Dat} {Q:Z5} {rest:List Oper} {dst:Option Tmp} {ty:TypeId} {ps:String} {af:Array Edge}
theorem ZRI {x:Operand} {n:Nat} {ats:Array TypeId} (hx:OpD fr x (dI (n:Int))) (h0:0<n) (hn:n≤1000)
  (h:∀v:Value,WL Tryz.prog ops Q rest (ZC fr dst (dX v)) (Z0 v 77 2 RV ([]:List Vx)::hp)) :
  WL Tryz.prog ops Q (⟨dst,.call { callee:=.value (.func 159),args:=#[.const (.slice none 0 0),x],argTypes:=ats },ty,ps,af,none⟩::rest) fr hp:=by
 refine WL.of fun P0 B w0 w a hh hf=>?_;obtain⟨i,hi',hz,hs,hb⟩:=info_parts elV.info;have hcon:=Any8.slices_Grow_grow Tryz.growV i _ hi' hz (by omega) none 0 0 n [] w (Nat.le_refl _) (by omega) (by rw[hb];omega) (by omega) (by simp) (fun _=>rfl) (by simp);change Calls Tryz.prog 159 _ _ _ at hcon;have hev:a.eval x = .int .i64 (n:Int):=hx.ev hf;have hrun:(execOp a.eval ⟨dst,.call { callee:=.value (.func 159),args:=#[.const (.slice none 0 0),x],argTypes:=ats },ty,ps,af,none⟩).run Tryz.prog w = .ok (.enter 159 #[.slice none 0 0,.int .i64 n]) w:=by
  unfold execOp;simp only[resolve];have he:(#[Operand.const (.slice none 0 0),x]:Array Operand).map a.eval=#[.slice none 0 0,.int .i64 n]:=by simp[hev];rfl
  rw[he];simp[Act.eval,Deferred.ofValue,invoke,Tryz.call159]
 refine wpList_plain rfl fun K hK=>?_;unfold Oper.wp;rw[hrun];refine hcon.mono fun e' w' ⟨he,hw'⟩=>?_;subst he;subst hw';have hge:=grownCap_ge w (0+n) 0 77;have hle:=grownCap_le_maxLen w (0+n) 0 77 (by unfold maxLen;omega);have hG:grownCap w (0+n) 0 (Tryz.growV_ren.t 25)=grownCap w (0+n) 0 77:=rfl;rw[hG];generalize grownCap w (0+n) 0 77=G at hge hle;have hx2:Ext w (w.drew.alloc (.cells (([]:List Value).toArray++Builtin.zeroCells (Value.agg #[.int .i64 0,.int .i64 0]).cells (0+n-0)++Builtin.zeroCells (Value.agg #[.int .i64 0,.int .i64 0]).cells (G-(0+n))) (Tryz.growV_ren.t 25))):=(Ext.refl w).drew.alloc _;have hb2:∀k,(Z0 (.slice (some ⟨w.heap.size,0,none⟩) 0 G) 77 2 RV ([]:List Vx)).blk=some k->w.heap.size≤k/\k<(w.drew.alloc (.cells (([]:List Value).toArray++Builtin.zeroCells (Value.agg #[.int .i64 0,.int .i64 0]).cells (0+n-0)++Builtin.zeroCells (Value.agg #[.int .i64 0,.int .i64 0]).cells (G-(0+n))) (Tryz.growV_ren.t 25))).heap.size:=fun k hk=>by
  cases hk;exact⟨Nat.le_refl _,by rw[World.size_alloc];exact Nat.lt_succ_self _⟩
 refine hK _ _ ((h (.slice (some ⟨w.heap.size,0,none⟩) 0 G)).on (hh.push hx2 hb2 ?_) (Fr.put (hf.mono fun d _ hd=>ZAJ hx2 (fun k hk=>(hb2 k hk).1) hd) rfl));refine ZEY.2 ⟨rfl,(([]:List Value).toArray++Builtin.zeroCells (Value.agg #[.int .i64 0,.int .i64 0]).cells (0+n-0)++Builtin.zeroCells (Value.agg #[.int .i64 0,.int .i64 0]).cells (G-(0+n))).toList,?_,by simp,by omega,?_⟩
 ·have:=Zz w.drew (.cells (([]:List Value).toArray++Builtin.zeroCells (Value.agg #[.int .i64 0,.int .i64 0]).cells (0+n-0)++Builtin.zeroCells (Value.agg #[.int .i64 0,.int .i64 0]).cells (G-(0+n))) (Tryz.growV_ren.t 25));rw[ZCM,List.nil_append,Array.toArray_toList];exact this
 ·rw[ZCM,List.nil_append];simp[Builtin.zeroCells,Value.cells];omega
end
end
section
theorem ZFZ (x y:Vx) : -1≤ZAd x y/\ZAd x y≤1:=by rcases ZBl x y with h|h|h <;> omega
theorem ZD9:∀(a b:List Vx),ZAb b a = - ZAb a b
 | [],[]=>by simp[ZAb]
 | [],_::_=>by simp[ZAb]
 | _::_,[]=>by simp[ZAb]
 | x::a,y::b=>by
  unfold ZAb;have h:=ZIa x y;split <;> split
  ·exact ZD9 a b
  ·omega
  ·omega
  ·exact h
theorem ZEA:∀(a b c:List Vx),ZAb a b≤0->ZAb b c≤0->ZAb a c≤0/\(ZAb a c=0->0≤ZAb a b+ZAb b c)
 | [],[],[],_,_=>by simp[ZAb]
 | [],[],_::_,_,_=>by simp[ZAb]
 | [],_::_,[],_,h=>by simp[ZAb] at h
 | [],_::_,_::_,_,_=>by simp[ZAb]
 | _::_,[],_,h,_=>by simp[ZAb] at h
 | _::_,_::_,[],_,h=>by simp[ZAb] at h
 | x::a,y::b,z::c,h,h'=>by
  have ih:=ZEA a b c;unfold ZAb at h h' ⊢;have r1:=ZFZ x y;have r2:=ZFZ y z;by_cases e1:ZAd x y=0
  ·have:=ZBy.1 e1;subst this;rw[if_pos e1] at h ⊢;by_cases e2:ZAd x z=0
   ·simp only[e2,if_true] at h' ⊢;exact ih h h'
   ·rw[if_neg e2] at h';rw[if_neg e2];exact⟨h',fun h0=>absurd h0 e2⟩
  ·rw[if_neg e1] at h ⊢;by_cases e2:ZAd y z=0
   ·have:=ZBy.1 e2;subst this;rw[if_neg e1];omega
   ·rw[if_neg e2] at h' ⊢;have e3:=ZBC (by omega:ZAd x y<0) (by omega:ZAd y z<0);rw[if_neg (by omega)];omega
end
section
abbrev Cx:=List (List Vx)
def ZBY (l:Cx):Bool:=decide (l.length≤30) && l.all fun s=>decide (s.length≤10)
def ZFK:Cx->List Vx->Cx
 | [],s=>[s]
 | x::l,s=>if ZAb s x<0 then s::x::l else x::ZFK l s
def ZCb (l:Cx) (s:List Vx):Cx:=if s∈l then l else ZFK l s
def ZEB (l:Cx) (s:List Vx):Bool:=l.any fun x=>decide (s.length<x.length) && Z8 s x
def ZEf:Option (List Vx)->Cx->Int
 | _,[]=>0
 | p,s::l=>if ZAC s≠0 then ZAC s else if(match p with|some u=>decide (0≤ZAb u s)|none=>false)=true then 14 else ZEf (some s) l
def ZB3 (l:Cx):Bool:=(List.range l.length).any fun i=>(List.range l.length).any fun k=>decide (i≠k) && Z8 (l.getD i []) (l.getD k [])
def ZBB (l:Cx):Int:=if 4096<l.length then 5 else if ZEf none l≠0 then ZEf none l else if ZB3 l=true then 7 else 0
def ZBm (c:Cx) (s:List Vx):Bool:=c.any fun f=>Z8 s f
def ZIV (c:Cx) (s:List Vx):Cx:=c.filter fun f=>Z8 s f
def ZAl (c:Cx) (k:Nat):Cx:=c.foldl (fun out f=>if f.length<k then out else(ZX k f).foldl ZCb out) []
theorem ZGO:∀(l:Cx) (s:List Vx),(ZFK l s).length=l.length+1
 | [],s=>rfl
 | x::l,s=>by
  unfold ZFK;split
  ·rfl
  ·simp[ZGO l s]
theorem ZSD (l:Cx) (s:List Vx):l.length≤(ZCb l s).length/\(ZCb l s).length≤l.length+1:=by
 unfold ZCb;split
 ·omega
 ·rw[ZGO];omega
theorem ZDW:∀(l out:Cx),out.length≤(l.foldl ZCb out).length/\(l.foldl ZCb out).length≤out.length+l.length
 | [],out=>by simp
 | s::l,out=>by
  have h1:=ZDW l (ZCb out s);have h2:=ZSD out s;simp only[List.foldl_cons,List.length_cons];omega
theorem ZGt (l:Cx) (k:Nat) (h:k<l.length):ZEf (l.take k).getLast? (l.drop k)=if ZAC l[k]≠0 then ZAC l[k] else if(match (l.take k).getLast? with|some u=>decide (0≤ZAb u l[k])|none=>false)=true then 14 else ZEf (l.take (k+1)).getLast? (l.drop (k+1)):=by
 rw[Zy h]
 conv=>lhs;unfold ZEf
 have e:(l.take (k+1)).getLast?=some l[k]:=by rw[Zf h,List.getLast?_append];rfl
 rw[e]
theorem ZCF (l:Cx) (k:Nat) (h:k<l.length) (h0:0<k):(l.take k).getLast?=some l[k-1]:=by
 rw[List.getLast?_eq_getElem?,List.length_take,Nat.min_eq_left (by omega),List.getElem?_take_of_lt (by omega),List.getElem?_eq_getElem (by omega)]
end
section
open Go.RowKit


theorem ZRn (l:Cx):Fn Tryz.prog 73 [dS Zh l] (dB (ZBY l)):=by
 (refine ZE Tryz.func73 rfl rfl ?_;simp only[Tryz.ntmps73,List.length_cons,List.length_nil,Nat.reduceAdd,Nat.reduceSub,List.replicate_succ,List.replicate_zero,List.cons_append,List.nil_append])
 ((repeat' (first|(apply WL.opN;exact yF;dsimp only[ZC,z0,z1])|refine WL.nil ?_|refine ZA fun Kx hK=>?_|(refine hK _ _ ?_;clear hK)|refine WC.region ?_|(apply WL.opN;(focus ((first|exact ZFN|exact ZA3|fail);all_goals infer_instance));dsimp only[ZC,z0,z1])|(apply ZB;(exact oD);all_goals (intro h;try exact xD))|refine WC.skip ?_|refine WC.ret ?_|refine WC.block ?_|refine ThenD.r ?_));all_goals (first|refine WC.id ?_|((repeat clear hK);(repeat clear Kx))))
 ·(refine⟨trivial,_,rfl,?_⟩;refine FinD.b ?_)
  unfold ZBY;rw[decide_eq_false (by omega)];rfl
 ·have h0:l.length≤30:=by omega
  (refine WC.loopU (X:=Nat) (fun k=>[(3,dI (k:Int)),(2,dA),(7,dA),(8,dA),(9,dA),(10,dA),(11,dA),(12,dA),(13,dA),(14,dA),(15,dA),(16,dA),(17,dA),(18,dA)]) (fun k=>[]) (fun k=>l.length-k) (fun k=>k≤l.length/\∀s∈l.take k,s.length≤10) 0 ?start ?frame0 ?objs0 ?round)
  case start=>simp
  case frame0=>exact zFr
  case objs0=>rfl
  case round =>
   rintro k ⟨h1,h2⟩;dsimp only[ZL,z0,z1];((repeat' (first|(apply WL.opN;exact yF;dsimp only[ZC,z0,z1])|refine WL.nil ?_|refine ZA fun Kx hK=>?_|(refine hK _ _ ?_;clear hK)|(refine Kont.skip ?_;clear hK)|refine WC.region ?_|(apply WL.opN;(focus ((first|(apply SY.call (few_c _) Tryz.call19;(exact aD))|exact ZBF|exact ZLC|exact ZBg|exact ZA3|exact ZT|fail);all_goals infer_instance));dsimp only[ZC,z0,z1])|(apply ZB;(exact oD);all_goals (intro h;try exact xD))|(apply ZG;(exact oD);all_goals (intro h;try exact xD))|refine WC.skip ?_|refine WC.ret ?_|refine WC.exit ?_|refine WC.block ?_|refine ThenD.n ?_|refine ThenD.r ?_|refine InBlockD.r ?_));all_goals (first|((repeat clear hK);(repeat clear Kx))))
   ·(refine⟨trivial,_,rfl,?_⟩;refine FinD.b ?_)
    unfold ZBY
    symm
    rw[Bool.and_eq_false_iff]
    right
    rw[List.all_eq_false];exact⟨_,List.getElem_mem (show k<l.length by omega),by rw[decide_eq_false (by omega)];exact Bool.false_ne_true⟩
   ·(refine zNx (k+1) ?_;(try dsimp only))
    refine⟨by omega,fun s hs=>?_⟩;rcases(Zv (by omega)).1 hs with h'|rfl
    ·exact h2 s h'
    ·omega
   ·rw[List.take_of_length_le (by omega)] at h2;(refine⟨trivial,_,rfl,?_⟩;refine FinD.b ?_)
    unfold ZBY
    symm
    rw[Bool.and_eq_true,List.all_eq_true];exact⟨decide_eq_true h0,fun s hs=>decide_eq_true (h2 s hs)⟩
theorem ZU6 (l:Cx):Fn Tryz.prog 32 [dS Cpx l] (dB (ZBY l)):=by
 (refine ZE Tryz.func32 rfl rfl ?_;simp only[Tryz.ntmps32,List.length_cons,List.length_nil,Nat.reduceAdd,Nat.reduceSub,List.replicate_succ,List.replicate_zero,List.cons_append,List.nil_append])
 ((repeat' (first|(apply WL.opN;exact yF;dsimp only[ZC,z0,z1])|refine WL.nil ?_|refine ZA fun Kx hK=>?_|(refine hK _ _ ?_;clear hK)|refine WC.region ?_|(apply WL.opN;(focus ((first|(apply SY.call (ZRn _) Tryz.call73;(exact aD))|exact Z3|exact ZEN|fail);all_goals infer_instance));dsimp only[ZC,z0,z1])|refine WC.ret ?_));all_goals (first|((repeat clear hK);(repeat clear Kx))))
 (refine⟨trivial,_,rfl,?_⟩;exact fD)
end
section
open Go.RowKit

theorem ZJ8 {p:List Vx->Bool} {l:Cx} {k:Nat} (h:k<l.length):(l.take (k+1)).filter p=(l.take k).filter p++(if p l[k]=true then[l[k]] else[]):=by
 rw[Zf h,List.filter_append];by_cases hp:p l[k]=true
 ·rw[if_pos hp,List.filter_cons_of_pos hp];rfl
 ·rw[if_neg hp,List.filter_cons_of_neg hp];rfl
end
end Go.Proofs.YtofkoleingbbpaaGreatDoor
