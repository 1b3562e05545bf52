/- Part 12: walks by contracts, and plain laws. -/
import Derived.Shelf.SlSortCmp.NoneTotal
import Derived.Shelf.Spec.SlicesGrow
import Derived.Test.YtekiljakcngcoaaGreatDoorV10
import Derived.Test.YtekiljakcngcoaaGreatDoorV11
set_option linter.unusedVariables false
set_option linter.unusedSimpArgs false
set_option linter.unusedSectionVars false
set_option maxRecDepth 100000
set_option maxHeartbeats 4000000
namespace Go.Proofs.YtekiljakcngcoaaGreatDoor.M
section
open Go.RowKit

theorem ZTx (x:Int):Fn Tryz.prog 136 [dI x] (dB false):=by
 (refine ZH Tryz.func136 rfl rfl ?_;simp only [Tryz.ntmps136,List.length_cons,List.length_nil,Nat.reduceAdd,Nat.reduceSub,List.replicate_succ,List.replicate_zero,List.cons_append,List.nil_append])
 ((repeat' (first|(apply ZS;(focus (apply SYG.yes;(exact Zc rfl);(first|(apply SY.move <;> (exact oD))|(apply SY.assign <;> (exact oD)))));dsimp only [ZA,z0,z1])|refine WL.nil ?_|refine ZC fun Kx hK=>?_|(refine hK _ _ ?_;clear hK)|refine WC.region ?_|(apply ZS;(focus (apply SYG.yes;(exact Zc rfl);((first|((first|apply SY.move|apply SY.assign|apply SY.neq) <;> (exact oD))|fail);all_goals infer_instance)));dsimp only [ZA,z0,z1])|refine WC.ret ?_));all_goals (first|((repeat clear hK);(repeat clear Kx))))
 all_goals ((refine ⟨trivial,_,rfl,?_⟩;refine FinD.b ?_);simp)
theorem ZOJ (x y:Int):Fn Tryz.prog 117 [dI x,dI y] (dI (ZTY x y)):=by
 (refine ZH Tryz.func117 rfl rfl ?_;simp only [Tryz.ntmps117,List.length_cons,List.length_nil,Nat.reduceAdd,Nat.reduceSub,List.replicate_succ,List.replicate_zero,List.cons_append,List.nil_append])
 ((repeat' (first|(apply ZS;(focus (apply SYG.yes;(exact Zc rfl);(first|(apply SY.move <;> (exact oD))|(apply SY.assign <;> (exact oD)))));dsimp only [ZA,z0,z1])|refine WL.nil ?_|refine ZC fun Kx hK=>?_|(refine hK _ _ ?_;clear hK)|refine WC.region ?_|(apply ZS;(focus (apply SYG.yes;(exact Zc rfl);((first|(apply SY.call (ZTx _) Tryz.call136;(exact aD))|((first|apply SY.move|apply SY.assign|apply SY.lss|apply SY.gtr) <;> (exact oD))|fail);all_goals infer_instance)));dsimp only [ZA,z0,z1])|(apply ZK;(exact oD);(with_reducible rfl))|(apply ZE;(exact oD);(all_goals intro h);(all_goals try (exfalso;first|omega|contradiction)))|refine WC.skip ?_|refine WC.ret ?_|refine ThenD.r ?_));all_goals (first|((repeat clear hK);(repeat clear Kx))))
 all_goals ((refine ⟨trivial,_,rfl,?_⟩;refine FinD.i ?_);unfold ZTY;simp [*])
 all_goals omega
theorem ZT2 (l:List Int):Fn Tryz.prog 116 [dS ZCC l] (dI (orI l)):=by
 (refine ZH Tryz.func116 rfl rfl ?_;simp only [Tryz.ntmps116,List.length_cons,List.length_nil,Nat.reduceAdd,Nat.reduceSub,List.replicate_succ,List.replicate_zero,List.cons_append,List.nil_append])
 (repeat' (first|(apply ZS;(focus (apply SYG.yes;(exact Zc rfl);(first|(apply SY.move <;> (exact oD))|(apply SY.assign <;> (exact oD))|(apply SY.load;(exact tD);(exact OpD.t rfl)))));dsimp only [ZA,z0,z1])|refine WL.nil ?_|refine ZC fun Kx hK=>?_|(refine hK _ _ ?_;clear hK)|refine WC.region ?_|(apply ZS;(focus (apply SYG.yes;(exact Zc rfl);((first|(apply SY.len;(exact oD);(exact nD);(exact uD))|fail);all_goals infer_instance)));dsimp only [ZA,z0,z1])|refine WC.block ?_))
 (first|refine Ze (t:=0) rfl ZFf fun hl0=>?_|refine Ze (t:=0) rfl ZFe fun hl0=>?_);simp only [maxLen] at hl0
 (refine WC.loopU (X:=Nat) (fun k=>[(8,dI (k:Int)),(2,dA),(5,dA),(9,dA),(10,dA),(11,dA),(12,dA),(13,dA),(14,dA),(15,dA),(16,dA)]) (fun k=>[]) (fun k=>l.length-k) (fun k=>k≤l.length/\orI l=orI (l.drop k)) 0 ?start ?frame0 ?objs0 ?round)
 case start=>exact ⟨Nat.zero_le _,rfl⟩
 case frame0=>((try dsimp only [Za,z0,z1]);repeat (first|exact LeF.nil|refine ZF (k:=?_)))
 case objs0=>rfl
 case round =>
  rintro k ⟨h1,h2⟩
  dsimp only [Za,z0,z1]
  ((repeat' (first|(apply ZS;(focus (apply SYG.yes;(exact Zc rfl);(first|(apply SY.move <;> (exact oD))|(apply SY.assign <;> (exact oD))|(apply SY.load;(exact tD);(exact OpD.t rfl)))));dsimp only [ZA,z0,z1])|refine WL.nil ?_|refine ZC fun Kx hK=>?_|(refine hK _ _ ?_;clear hK)|(refine Kont.skip ?_;clear hK)|refine WC.region ?_|(apply ZS;(focus (apply SYG.yes;(exact Zc rfl);((first|((first|apply SY.move|apply SY.assign|apply SY.lss|apply SY.neq) <;> (exact oD))|((first|apply SY.add) <;> first|exact oD|omega)|(apply SY.ix;(exact eD);(exact oD);(exact oD);exact kD)|fail);all_goals infer_instance)));dsimp only [ZA,z0,z1])|(apply ZE;(exact oD);(all_goals intro h);(all_goals try (exfalso;first|omega|contradiction)))|(apply WC.condN;(exact oD);(all_goals intro h);(all_goals try (exfalso;first|omega|contradiction)))|refine WC.skip ?_|refine WC.ret ?_|refine WC.exit ?_|refine WC.block ?_|refine ThenD.n ?_|refine ThenD.r ?_|refine InBlockD.r ?_));all_goals (first|((repeat clear hK);(repeat clear Kx))))
  ·(refine ⟨trivial,_,rfl,?_⟩;refine FinD.i ?_)
   rw [h2,ZFw (by omega),if_neg h]
  ·(refine ⟨k+1,?_,by first|omega|(simp only;omega),rfl,?_⟩;rotate_left;((try dsimp only [Za,z0,z1]);repeat (first|exact LeF.nil|refine ZF (k:=?_)));(try dsimp only))
   exact ⟨by omega,by rw [h2,ZFw (by omega),if_pos h]⟩
  ·(refine ⟨trivial,_,rfl,?_⟩;refine FinD.i ?_)
   rw [h2,List.drop_of_length_le (by omega)];rfl
theorem ZIM (x y:Vx):Fn Tryz.prog 88 [dS RV x,dS RV y] (dI (ZA8 x y)):=by
 (refine ZH Tryz.func88 rfl rfl ?_;simp only [Tryz.ntmps88,List.length_cons,List.length_nil,Nat.reduceAdd,Nat.reduceSub,List.replicate_succ,List.replicate_zero,List.cons_append,List.nil_append])
 ((repeat' (first|((first|apply ZS|apply WD.op);(focus (apply SYG.yes;(exact Zc rfl);(first|(apply SY.assign <;> (exact oD))|(apply SY.load;(exact tD);(exact OpD.t rfl)))));dsimp only [ZA,z0,z1])|refine WL.nil ?_|refine WD.nil ?_|refine ZC fun Kx hK=>?_|(refine hK _ _ ?_;clear hK)|refine WC.region ?_|(apply WC.draw;kernel_rfl;kernel_rfl)|((first|apply ZS|apply WD.op);(focus (apply SYG.yes;(exact Zc rfl);((first|(apply SY.call (ZOJ _ _) Tryz.call117;(exact aD))|(apply SY.call (ZT2 [_,_]) Tryz.call116;(exact aD))|(first|(apply SY.fld0 vxT <;> (exact oD))|(apply SY.fld1 vxT <;> (exact oD)))|(apply SY.build1';(exact eD);((try simp only [List.map_cons,List.map_nil]);(repeat (first|exact ZR|(apply ZQ;(first|exact OpD.t rfl|exact OpD.i|exact OpD.b|exact OpD.tle rfl (by first|exact ZD|exact ZB (by decide))|exact ⟨ZD⟩|exact ⟨ZB (by decide)⟩)))));rfl;rfl;(intro _;first|exact Zq|exact Zv|exact Zt|exact shape_B);(exact (by simp)))|(apply SY.box;(exact oD);(exact hD))|fail);all_goals infer_instance)));dsimp only [ZA,z0,z1])|refine WC.ret ?_));all_goals (first|((repeat clear hK);(repeat clear Kx))))
 all_goals ((refine ⟨trivial,_,rfl,?_⟩;refine FinD.i ?_);exact ZOK _ _)
theorem Ext.grow {w w':World} (h:Ext w w'):∃ q os',w'=Go.Sort.grow (w.drewN q) os':=by
 refine ⟨w'.drawn-w.drawn,w'.heap.extract w.heap.size w'.heap.size,?_⟩
 have hd:=h.d
 have hs:=h.b.size
 have hh:w'.heap=w.heap++w'.heap.extract w.heap.size w'.heap.size:=by
  apply Array.ext
  ·simp;omega
  ·intro i h1 h2
   by_cases hi:i<w.heap.size
   ·have:=h.b.block i hi
    rw [Array.getElem?_eq_getElem h1,Array.getElem?_eq_getElem hi] at this
    rw [Array.getElem_append_left hi]
    exact Option.some.inj this
   ·rw [Array.getElem_append_right (by omega),Array.getElem_extract]
    congr 1
    omega
 unfold Go.Sort.grow World.drewN
 cases w'
 cases w
 simp only at hd hh
 have h1:=h.b.os;have h2:=h.b.tape;have h3:=h.b.output
 simp only at h1 h2 h3
 subst h1;subst h2;subst h3
 simp only [World.mk.injEq,true_and,and_true]
 exact ⟨hh,by omega⟩
theorem ZT4 (x y:Vx) (w:World):Calls Tryz.prog 88 #[.agg #[.int .i64 x.1,.int .i64 x.2],.agg #[.int .i64 y.1,.int .i64 y.2]] w fun e w'=>e = .returned (.int .i64 (ZA8 x y))/\∃ q os',w'=Go.Sort.grow (w.drewN q) os':=by
 have:=(ZIM x y).out (fun _=>True) w [.agg #[.int .i64 x.1,.int .i64 x.2],.agg #[.int .i64 y.1,.int .i64 y.2]] rfl (fun i d hd=>by
  match i with
  | 0=>cases hd;rfl
  | 1=>cases hd;rfl
  | i+2=>simp at hd)
 exact this.mono fun e w' ⟨v,h1,h2,h3⟩=>⟨by rw [h1];exact congrArg _ h3,h2.grow⟩

end
end Go.Proofs.YtekiljakcngcoaaGreatDoor.M
namespace Go.Proofs
section
open Go.Shelf
def Tryz.sortV_ren:Go.Shelf.Ren:=⟨fun|6=>59|15=>86|14=>85|28=>114|29=>115|20=>106|21=>107|22=>108|23=>109|24=>110|25=>111|26=>112|27=>113|46=>131|47=>132|48=>133|49=>134|50=>135|57=>144|n=>n,fun|22=>28|24=>50|25=>86|3=>3|39=>137|0=>0|53=>159|55=>161|4=>4|46=>153|45=>152|50=>47|5=>5|9=>9|66=>173|70=>177|76=>184|77=>185|n=>n,fun|n=>n⟩
theorem Tryz.sortV:Go.Proofs.SlLaysF0.n6 Tryz.prog Tryz.sortV_ren:={
 mixed:=by kernel_rfl
 f6:=⟨Tryz.f59.name,by decide,Tryz.func59.trans (congrArg some (by kernel_rfl))⟩
 f14:=⟨Tryz.f85.name,by decide,Tryz.func85.trans (congrArg some (by kernel_rfl))⟩
 f15:=Tryz.func86.trans (congrArg some (by kernel_rfl))
 f20:=⟨Tryz.f106.name,by decide,Tryz.func106.trans (congrArg some (by kernel_rfl))⟩
 f21:=⟨Tryz.f107.name,by decide,Tryz.func107.trans (congrArg some (by kernel_rfl))⟩
 f22:=⟨Tryz.f108.name,by decide,Tryz.func108.trans (congrArg some (by kernel_rfl))⟩
 f23:=⟨Tryz.f109.name,by decide,Tryz.func109.trans (congrArg some (by kernel_rfl))⟩
 f24:=⟨Tryz.f110.name,by decide,Tryz.func110.trans (congrArg some (by kernel_rfl))⟩
 f25:=⟨Tryz.f111.name,by decide,Tryz.func111.trans (congrArg some (by kernel_rfl))⟩
 f26:=⟨Tryz.f112.name,by decide,Tryz.func112.trans (congrArg some (by kernel_rfl))⟩
 f27:=⟨Tryz.f113.name,by decide,Tryz.func113.trans (congrArg some (by kernel_rfl))⟩
 f28:=Tryz.func114.trans (congrArg some (by kernel_rfl))
 f29:=Tryz.func115.trans (congrArg some (by kernel_rfl))
 f46:=⟨Tryz.f131.name,by decide,Tryz.func131.trans (congrArg some (by kernel_rfl))⟩
 f47:=Tryz.func132.trans (congrArg some (by kernel_rfl))
 f48:=Tryz.func133.trans (congrArg some (by kernel_rfl))
 f49:=⟨Tryz.f134.name,by decide,Tryz.func134.trans (congrArg some (by kernel_rfl))⟩
 f50:=⟨Tryz.f135.name,by decide,Tryz.func135.trans (congrArg some (by kernel_rfl))⟩
 f57:=⟨Tryz.f144.name,by decide,Tryz.func144.trans (congrArg some (by kernel_rfl))⟩
 t0:=Tryz.underlying0
 a0:=Tryz.isAgg0
 z0:=Tryz.sizeOf0
 v0:=Tryz.zeroValue0
 t3:=Tryz.underlying3
 a3:=Tryz.isAgg3
 z3:=Tryz.sizeOf3
 v3:=Tryz.zeroValue3
 t4:=Tryz.underlying4
 a4:=Tryz.isAgg4
 z4:=Tryz.sizeOf4
 v4:=Tryz.zeroValue4
 t5:=Tryz.underlying5
 a5:=Tryz.isAgg5
 z5:=Tryz.sizeOf5
 v5:=Tryz.zeroValue5
 t9:=Tryz.underlying9
 a9:=Tryz.isAgg9
 z9:=Tryz.sizeOf9
 v9:=Tryz.zeroValue9
 t22:=Tryz.underlying28
 a22:=Tryz.isAgg28
 z22:=Tryz.sizeOf28
 v22:=Tryz.zeroValue28
 t25:=Tryz.underlying86
 a25:=Tryz.isAgg86
 z25:=Tryz.sizeOf86
 v25:=Tryz.zeroValue86
 t39:=Tryz.underlying137
 a39:=Tryz.isAgg137
 z39:=Tryz.sizeOf137
 v39:=Tryz.zeroValue137
 t45:=Tryz.underlying152
 a45:=Tryz.isAgg152
 z45:=Tryz.sizeOf152
 v45:=Tryz.zeroValue152
 t46:=Tryz.underlying153
 a46:=Tryz.isAgg153
 z46:=Tryz.sizeOf153
 v46:=Tryz.zeroValue153
 t50:=Tryz.underlying47
 a50:=Tryz.isAgg47
 z50:=Tryz.sizeOf47
 v50:=Tryz.zeroValue47
 t53:=Tryz.underlying159
 a53:=Tryz.isAgg159
 z53:=Tryz.sizeOf159
 v53:=Tryz.zeroValue159
 t55:=Tryz.underlying161
 a55:=Tryz.isAgg161
 z55:=Tryz.sizeOf161
 v55:=Tryz.zeroValue161
 t66:=Tryz.underlying173
 a66:=Tryz.isAgg173
 z66:=Tryz.sizeOf173
 v66:=Tryz.zeroValue173
 t70:=Tryz.underlying177
 a70:=Tryz.isAgg177
 z70:=Tryz.sizeOf177
 v70:=Tryz.zeroValue177
 t76:=Tryz.underlying184
 a76:=Tryz.isAgg184
 z76:=Tryz.sizeOf184
 v76:=Tryz.zeroValue184
 t77:=Tryz.underlying185
 a77:=Tryz.isAgg185
 z77:=Tryz.sizeOf185
 v77:=Tryz.zeroValue185 }
end
end Go.Proofs
namespace Go.Proofs.YtekiljakcngcoaaGreatDoor
section
open Go.RowKit Go.Sort Go.Shelf

theorem swoV:SWO (ltOf ZA8) where
 irrefl x:=by simp [ltOf,ZCO.2 (rfl:x=x)]
 trans x y z h h':=by
  simp only [ltOf,decide_eq_true_eq] at *
  exact ZBg h h'
 ntrans x y z h h':=by
  simp only [ltOf,decide_eq_false_iff_not] at *
  intro hc
  rcases ZBf x y with k|k|k
  ·omega
  ·have:=ZBg (a:=y) (b:=x) (c:=z) (by omega) hc
   exact h' this
  ·exact h' (k.2.2 ▸ hc)
theorem ZJU {d:Array Vx}:(flatK ZCU 2 d).toList=(d.toList.map ZCU).flatten:=by
 apply List.ext_getElem?
 intro t
 have hl:∀ u∈d.toList.map ZCU,u.length=2:=fun u hu=>by obtain ⟨x,_,rfl⟩:=List.mem_map.1 hu;rfl
 have hlen:((d.toList.map ZCU).flatten).length=d.size*2:=by
  rw [List.length_flatten]
  have:(List.map List.length (d.toList.map ZCU))=List.replicate d.size 2:=by
   rw [List.eq_replicate_iff]
   refine ⟨by simp,fun b hb=>?_⟩
   obtain ⟨u,hu,rfl⟩:=List.mem_map.1 hb
   exact hl u hu
  rw [this];simp
 by_cases ht:t<d.size*2
 ·have h1:t / 2<(d.toList.map ZCU).length:=by simp;omega
  have h2:t % 2<2:=Nat.mod_lt _ (by decide)
  have h3:((d.toList.map ZCU)[t / 2]'h1)[t % 2]?=some ((ZCU (d[t / 2]'(by omega)))[t % 2]'(by simp [ZCU];omega)):=by
   simp
  have h4:=ZAV hl h1 h3
  have h5:t / 2*2+t % 2=t:=by omega
  rw [h5] at h4
  rw [h4]
  have h6:=get_flatK ZCU 2 d t ht
  rw [Array.getElem?_toList]
  have h7:t<(flatK ZCU 2 d).size:=by simp;omega
  rw [getElem!_pos _ t h7,getElem!_pos d (t / 2) (by omega),getElem!_pos _ (t % 2) (by simp [ZCU];omega)] at h6
  rw [Array.getElem?_eq_getElem h7,h6]
 ·rw [List.getElem?_eq_none (by simp;omega),List.getElem?_eq_none (by omega)]
section
variable {w:World} {g n cap:Nat} {os:Array Obj} {cur:Array Value} {e:TypeId} {fz:Nat × Nat}
theorem ZJg {F:Array Value} (hb:w.heap[g]?=some (.cells cur e (0,0))) (ht:cur.toList.take F.size=F.toList):Holds id w g 0 F:=by
 intro j hj
 refine ⟨?_,by simp [World.frozen?,hb]⟩
 have h1:(cur.toList.take F.size)[j]?=F.toList[j]?:=by rw [ht]
 rw [List.getElem?_take_of_lt hj] at h1
 simp only [World.cell?,hb,Nat.zero_add]
 simp only [Option.isSome_none,Bool.false_eq_true,if_false]
 rw [<- Array.getElem?_toList,h1,getElem!_pos _ j hj]
 simp [hj]
theorem ZJf (F:Array Value) (hb:w.heap[g]?=some (.cells cur e fz)) :
  (grow (putRow id (Sort.ahead w n) g 0 F) os).heap[g]?=some (.cells (putCells id 0 F cur) e fz):=by
 have hg:g<w.heap.size:=(Array.getElem?_eq_some_iff.1 hb).1
 rw [heap_grow_old _ _ (by simpa using hg)]
 simp [putRow,mapBlock,Sort.ahead,Array.getElem?_modify,hb,onCells]
theorem ZGU (F:Array Value):w.grownBy (grow (putRow id (Sort.ahead w n) g 0 F) os) (some g):=by
 refine ⟨rfl,rfl,rfl,by simp,fun k hk hne=>?_⟩
 rw [heap_grow_old _ _ (by simpa using hk)]
 have:g≠k:=fun e=>hne (by rw [e])
 simp [putRow,mapBlock,Sort.ahead,Array.getElem?_modify,this]
theorem ZG1 (cur F:Array Value) (h:F.size≤cur.size):(putCells id 0 F cur).toList.take F.size=F.toList:=by
 apply List.ext_getElem?
 intro j
 by_cases hj:j<F.size
 ·rw [List.getElem?_take_of_lt hj,Array.getElem?_toList]
  simp [putCells,hj,show j<cur.size by omega]
 ·rw [List.getElem?_take_eq_none (by omega),List.getElem?_eq_none (by simp;omega)]
end
section
variable {ops:Array Oper} {hp:List HObj} {fr:List Dat} {Q:ZAW} {rest:List Oper} {dst:Option Tmp} {ty:TypeId} {ps:String} {af:Array Edge}
theorem ZEJ {cf:FuncId} (hce:ZAn Tryz.prog cf) (hcx:∀ (x y:Vx) (w:World),Calls Tryz.prog cf #[.agg #[.int .i64 x.1,.int .i64 x.2],.agg #[.int .i64 y.1,.int .i64 y.2]] w fun e w'=>e = .returned (.int .i64 (ZA8 x y))/\∃ q os',w'=Go.Sort.grow (w.drewN q) os') {x:Operand} {v:Value} {e:TypeId} {xs:List Vx} {ats:Array TypeId} (hx:OpD fr x (dX v)) (hlen:xs.length<4611686018427387904)
  (h:∀ ys:List Vx,ys.Perm xs->ys.Pairwise (fun a b=>¬ ZA8 b a<0)->WL Tryz.prog ops Q rest (ZA fr dst dA) (Zp v e 2 RV ys::hp)) :
  WL Tryz.prog ops Q (⟨dst,.call { callee:=.value (.func 59),args:=#[x,.func cf],argTypes:=ats },ty,ps,af,none⟩::rest) fr (Zp v e 2 RV xs::hp):=by
 refine WL.of fun P0 B w0 w a hh hf=>?_
 have hok:=hh.ok (Zp v e 2 RV xs) (by simp)
 obtain ⟨us,h1,h2,h0,h3,h4⟩:=hok
 have hus:=ZK5 h1 h4
 subst hus
 have hev:a.eval x=v:=hx.ev hf
 obtain ⟨hfl,hv⟩:=h3
 by_cases hne0:xs=[]
 ·subst hne0
  have hv0:∃ p cap,v = .slice p 0 cap:=by
   rcases hv with ⟨hv,_⟩|⟨g,cap,cur,hv,_⟩
   ·exact ⟨_,_,hv⟩
   ·exact ⟨_,_,hv⟩
  obtain ⟨p,cap,hv0⟩:=hv0
  have hcon:=AnyF.slices_SortFunc_none (P:=Tryz.prog) (ρ:=Tryz.sortV_ren) Tryz.sortV p cap (.func (.func cf) #[] #[]) w
  change Calls Tryz.prog 59 _ _ _ at hcon
  have hrun:(execOp a.eval ⟨dst,.call { callee:=.value (.func 59),args:=#[x,.func cf],argTypes:=ats },ty,ps,af,none⟩).run Tryz.prog w = .ok (.enter 59 #[v,.func (.func cf) #[] #[]]) w:=by
   unfold execOp
   simp only [resolve]
   have he:(#[x,Operand.func cf]:Array Operand).map a.eval=#[v,.func (.func cf) #[] #[]]:=by simp [hev];rfl
   rw [he]
   simp [Act.eval,Deferred.ofValue,invoke,Tryz.call59]
  refine wpList_plain rfl fun K hK=>?_
  unfold Oper.wp
  rw [hrun,hv0]
  refine hcon.mono fun e' w' ⟨he,hw'⟩=>?_
  subst he
  subst hw'
  exact hK _ _ ((h [] (List.Perm.refl _) List.Pairwise.nil).on hh (hf.put (d:=dA) trivial))
 have hne:0<xs.length:=List.length_pos_iff.2 hne0
 rcases hv with ⟨_,hz⟩|⟨g,cap,cur,hv,hB,hg,hc1,hc2,hc3,hc4⟩
 ·omega
 have hgb:g<w.heap.size:=(Array.getElem?_eq_some_iff.1 hg).1
 have hF:(flatK ZCU 2 xs.toArray).toList=(xs.map ZCU).flatten:=by rw [ZJU]
 have hFs:(flatK ZCU 2 xs.toArray).size=xs.length*2:=by simp
 have hH:HoldsK ZCU 2 w g 0 xs.toArray:=ZJg hg (by rw [hFs,hF];exact hc4)
 have hcon:=AnyQ.slices_SortFunc Tryz.sortV 2 Tryz.isAgg50 Tryz.sizeOf50 ZCU (fun _=>rfl) (fun x v hv=>by simp [ZCU] at hv;rcases hv with rfl|rfl <;> rfl) ZA8 swoV cf #[] g 0 cap xs.toArray w hce
  (fun _ _ _ _ x y=>hcx x y _) hH hgb (by simpa using hlen)
 change Calls Tryz.prog 59 _ _ _ at hcon
 subst hv
 have hrun:(execOp a.eval ⟨dst,.call { callee:=.value (.func 59),args:=#[x,.func cf],argTypes:=ats },ty,ps,af,none⟩).run Tryz.prog w = .ok (.enter 59 #[.slice (some ⟨g,0,none⟩) xs.toArray.size cap,.func (.func cf) #[] #[]]) w:=by
  unfold execOp
  simp only [resolve]
  have he:(#[x,Operand.func cf]:Array Operand).map a.eval=#[.slice (some ⟨g,0,none⟩) xs.toArray.size cap,.func (.func cf) #[] #[]]:=by simp [hev];rfl
  rw [he]
  simp [Act.eval,Deferred.ofValue,invoke,Tryz.call59]
 refine wpList_plain rfl fun K hK=>?_
 unfold Oper.wp
 rw [hrun]
 refine hcon.mono fun e' w' ⟨he,d',n,os,hp1,hs,hw'⟩=>?_
 subst he
 subst hw'
 obtain ⟨q1,_,q3⟩:=hp1
 have hsz:d'.size=xs.length:=by simpa using q1
 have hperm:d'.toList.Perm xs:=by
  have:xs.toArray.size=d'.size:=by simp [hsz]
  rw [this] at q3
  have e1:d'.extract 0 d'.size=d':=by simp
  have e2:xs.toArray.extract 0 d'.size=xs.toArray:=by rw [hsz];simp
  rw [e1,e2] at q3
  exact q3
 have hsort:d'.toList.Pairwise (fun a b=>¬ ZA8 b a<0):=by
  rw [List.pairwise_iff_getElem]
  intro i j hi hj hij
  have hi':i<d'.size:=by simpa using hi
  have hj':j<d'.size:=by simpa using hj
  have:=hs i j (Nat.zero_le _) hij (by simp;omega)
  rw [getElem!_pos d' i hi',getElem!_pos d' j hj'] at this
  simpa [ltOf] using this
 have hF':(flatK ZCU 2 d').toList=(d'.toList.map ZCU).flatten:=ZJU
 have hFs':(flatK ZCU 2 d').size=d'.toList.length*2:=by simp
 have hgr:w.grownBy (sortWorldK ZCU 2 w g 0 n d' os) (Zp (.slice (some ⟨g,0,none⟩) xs.length cap) e 2 RV xs).blk:=ZGU _
 have hlen':d'.toList.length=xs.length:=by simpa using hsz
 have hok:(Zp (.slice (some ⟨g,0,none⟩) xs.length cap) e 2 RV d'.toList).ok (fun k=>Imm P0 B (Zp (.slice (some ⟨g,0,none⟩) xs.length cap) e 2 RV xs::hp) k/\k<w.heap.size) (sortWorldK ZCU 2 w g 0 n d' os):=by
  refine ⟨d'.toList.map ZCU,by simp,fun u hu=>?_,by decide,⟨?_,.inr ⟨g,cap,putCells _root_.id 0 (flatK ZCU 2 d') cur,?_,hB,ZJf _ hg,by omega,hc2,by simp [putCells,hc3],?_⟩⟩,fun k h h'=>?_⟩
  ·obtain ⟨y,_,rfl⟩:=List.mem_map.1 hu
   exact ⟨rfl,by simp [ZCU,Value.oneCell']⟩
  ·rw [<- hF',Array.length_toList,hFs']
  ·rw [hlen']
  ·rw [<- hFs',<- hF']
   exact ZG1 _ _ (by rw [hFs',hlen',hc3];exact Nat.mul_le_mul_right _ hc1)
  ·show Value.agg _=_
   rw [List.getElem_map]
   rfl
 exact hK _ _ ((h d'.toList hperm hsort).on (hh.write hgr (.inl rfl) hok) (Fr.put (hf.mono fun _ _ hd=>ZY (o':=Zp (.slice (some ⟨g,0,none⟩) xs.length cap) e 2 RV d'.toList) hgr (.inl rfl) hd) (d:=dA) trivial))
theorem ZQY {x:Operand} {v:Value} {e:TypeId} {xs:List Vx} {ats:Array TypeId} (hx:OpD fr x (dX v)) (_hne:0<xs.length) (hlen:xs.length<4611686018427387904)
  (h:∀ ys:List Vx,ys.Perm xs->ys.Pairwise (fun a b=>¬ ZA8 b a<0)->WL Tryz.prog ops Q rest (ZA fr dst dA) (Zp v e 2 RV ys::hp)) :
  WL Tryz.prog ops Q (⟨dst,.call { callee:=.value (.func 59),args:=#[x,.func 88],argTypes:=ats },ty,ps,af,none⟩::rest) fr (Zp v e 2 RV xs::hp) :=
 ZEJ Tryz.call88 (fun x y w=>M.ZT4 x y w) hx hlen h
end
end
section
open Go.RowKit

set_option maxHeartbeats 4000000 in
theorem of_p (l:List Vx) (hl:l.length≤100):Fn Tryz.prog 75 [dS ZI l] (dT [dS ZI (ofV l).1,dI (ofV l).2]):=by
 (refine ZAl Tryz.func75 rfl rfl ?_;simp only [Tryz.ntmps75,List.length_cons,List.length_nil,Nat.reduceAdd,Nat.reduceSub,List.replicate_succ,List.replicate_zero,List.cons_append,List.nil_append])
 ((repeat' (first|(apply WL.opN;exact yF;dsimp only [ZA,z0,z1])|refine WL.nil ?_|refine ZC fun Kx hK=>?_|(refine hK _ _ ?_;clear hK)|refine WC.region ?_|(apply WL.opN;(focus ((first|exact ZNA|exact ZBq|fail);all_goals infer_instance));dsimp only [ZA,z0,z1])|(apply ZE;(exact oD);all_goals (intro h;try exact xD))|refine WC.skip ?_|refine WC.ret ?_|refine WC.block ?_|refine ThenD.r ?_));all_goals (first|refine WC.id ?_|((repeat clear hK);(repeat clear Kx))))
 ·(refine ⟨trivial,⟨_,rfl,?_⟩,_,rfl,?_⟩ <;> (first|refine FinD.i ?_|refine ZAE (by decide) ?_)) <;> ((unfold ofV;(repeat' split)) <;> (first|rfl|(exfalso;first|contradiction|omega)|(simp_all;done)))
 ·have hne:l.length≠0:=by omega
  (refine WC.loopU (X:=Nat) (fun k=>[(12,dI (k:Int)),(2,dA),(3,dA),(5,dA),(13,dA),(14,dA),(15,dA),(16,dA),(17,dA),(18,dA),(19,dA)]) (fun k=>[]) (fun k=>l.length-k) (fun k=>k≤l.length/\(l.take k).all ZEy=true) 0 ?start ?frame0 ?objs0 ?round)
  case start=>simp
  case frame0=>((try dsimp only [Za,z0,z1]);repeat (first|exact LeF.nil|refine ZF (k:=?_)))
  case objs0=>rfl
  case round =>
   rintro k ⟨h1,h2⟩
   dsimp only [Za,z0,z1]
   ((repeat' (first|(apply WL.opN;exact yF;dsimp only [ZA,z0,z1])|refine WL.nil ?_|refine ZC fun Kx hK=>?_|(refine hK _ _ ?_;clear hK)|(refine Kont.skip ?_;clear hK)|refine WC.region ?_ |  (apply ZNZ (by decide) (ZTV l (by omega)) Tryz.call62;(exact aD);intro vc;dsimp only [ZA,z0,z1]) |  (apply ZQY;exact OpD.t rfl;omega;omega;intro ys hperm hsort;dsimp only [ZA,z0,z1]) |  (refine ZLK (ZJO ys vc hsort (by rw [hperm.length_eq];omega)) Tryz.call96 ?_ ?_;(exact aD);intro vd zs hzs;dsimp only [ZA,z0,z1])|(apply WL.alloc;(exact tzV);(first|exact ZN rfl|exact ZW);(intro _;dsimp only [ZA,z0,z1]))|(apply ZG;(exact tD);rfl;(exact oD);(exact hD);dsimp only [ZA,z0,z1])|(apply WL.opN;(focus ((first|(apply SY.call (ZHQ _) Tryz.call89;(exact aD))|exact ZBy|exact ZIh|exact ZP5|exact ZCk|exact ZBq|exact Zg|fail);all_goals infer_instance));dsimp only [ZA,z0,z1])|(apply ZE;(exact oD);all_goals (intro h;try exact xD))|(apply WC.condNB;(exact oD);all_goals (intro h;try exact xD))|refine WC.skip ?_|refine WC.ret ?_|refine WC.exit ?_|refine WC.block ?_|refine ThenD.n ?_|refine ThenD.r ?_|refine InBlockD.r ?_));all_goals (first|((repeat clear hK);(repeat clear Kx))))
   ·have h3:l.all ZEy=false:=by rw [List.all_eq_false];exact ⟨l[k],List.getElem_mem _,by simp [h]⟩
    (refine ⟨trivial,⟨_,rfl,?_⟩,_,rfl,?_⟩ <;> (first|refine FinD.i ?_|refine ZAE (by decide) ?_)) <;> ((unfold ofV;(repeat' split)) <;> (first|rfl|(exfalso;first|contradiction|omega)|(simp_all;done)))
   ·(refine ⟨k+1,?_,by first|omega|(simp only;omega),rfl,?_⟩;rotate_left;((try dsimp only [Za,z0,z1]);repeat (first|exact LeF.nil|refine ZF (k:=?_)));(try dsimp only))
    exact ⟨by omega,by rw [ZLR (by omega),h2,h];rfl⟩
   all_goals
    have h3:l.all ZEy=true:=by rw [List.take_of_length_le (by omega)] at h2;exact h2
    have hz:zs=ZCH [] l:=ZCq hzs.1 (ZCp (by simp [Asc])) fun u=>by rw [hzs.2,ZCM,hperm.mem_iff];simp
    clear h2
    subst hz
    (refine ⟨trivial,⟨_,rfl,?_⟩,_,rfl,?_⟩ <;> (first|refine FinD.i ?_|refine ZAQ (.head _) ?_|refine ZAE (by decide) ?_)) <;> ((unfold ofV;(repeat' split)) <;> (first|rfl|(exfalso;first|contradiction|omega)|(simp_all;done)))

end
end Go.Proofs.YtekiljakcngcoaaGreatDoor
namespace Go.Proofs
section
open Go.Shelf
def Tryz.growV_ren:Go.Shelf.Ren:=⟨fun|4=>126|n=>n,fun|22=>28|25=>50|3=>3|4=>4|9=>9|20=>20|0=>0|2=>3|n=>n,fun|n=>n⟩
theorem Tryz.growV:Go.Proofs.Lays8.n4 Tryz.prog Tryz.growV_ren:={
 mixed:=by kernel_rfl
 f4:=⟨Tryz.f126.name,by decide,Tryz.func126.trans (congrArg some (by kernel_rfl))⟩
 t0:=Tryz.underlying0
 a0:=Tryz.isAgg0
 z0:=Tryz.sizeOf0
 v0:=Tryz.zeroValue0
 t3:=Tryz.underlying3
 a3:=Tryz.isAgg3
 z3:=Tryz.sizeOf3
 v3:=Tryz.zeroValue3
 t4:=Tryz.underlying4
 a4:=Tryz.isAgg4
 z4:=Tryz.sizeOf4
 v4:=Tryz.zeroValue4
 t9:=Tryz.underlying9
 a9:=Tryz.isAgg9
 z9:=Tryz.sizeOf9
 v9:=Tryz.zeroValue9
 t20:=Tryz.underlying20
 a20:=Tryz.isAgg20
 z20:=Tryz.sizeOf20
 v20:=Tryz.zeroValue20
 t22:=Tryz.underlying28
 a22:=Tryz.isAgg28
 z22:=Tryz.sizeOf28
 v22:=Tryz.zeroValue28 }
end
end Go.Proofs
namespace Go.Proofs.YtekiljakcngcoaaGreatDoor
section
open Go.RowKit

section
variable {ops:Array Oper} {hp:List HObj} {fr:List Dat} {Q:ZAW} {rest:List Oper} {dst:Option Tmp} {ty:TypeId} {ps:String} {af:Array Edge}
theorem ZQU {x:Operand} {n:Nat} {ats:Array TypeId} (hx:OpD fr x (dI (n:Int))) (h0:0<n) (hn:n≤1000)
  (h:∀ v:Value,WL Tryz.prog ops Q rest (ZA fr dst (dX v)) (Zp v 50 2 RV ([]:List Vx)::hp)) :
  WL Tryz.prog ops Q (⟨dst,.call { callee:=.value (.func 126),args:=#[.const (.slice none 0 0),x],argTypes:=ats },ty,ps,af,none⟩::rest) fr hp:=by
 refine WL.of fun P0 B w0 w a hh hf=>?_
 obtain ⟨i,hi',hz,hs,hb⟩:=info_parts elV.info
 have hcon:=Any8.slices_Grow_grow Tryz.growV i _ hi' hz (by omega) none 0 0 n [] w (Nat.le_refl _) (by omega) (by rw [hb];omega) (by omega) (by simp) (fun _=>rfl) (by simp)
 change Calls Tryz.prog 126 _ _ _ at hcon
 have hev:a.eval x = .int .i64 (n:Int):=hx.ev hf
 have hrun:(execOp a.eval ⟨dst,.call { callee:=.value (.func 126),args:=#[.const (.slice none 0 0),x],argTypes:=ats },ty,ps,af,none⟩).run Tryz.prog w = .ok (.enter 126 #[.slice none 0 0,.int .i64 n]) w:=by
  unfold execOp
  simp only [resolve]
  have he:(#[Operand.const (.slice none 0 0),x]:Array Operand).map a.eval=#[.slice none 0 0,.int .i64 n]:=by simp [hev];rfl
  rw [he]
  simp [Act.eval,Deferred.ofValue,invoke,Tryz.call126]
 refine wpList_plain rfl fun K hK=>?_
 unfold Oper.wp
 rw [hrun]
 refine hcon.mono fun e' w' ⟨he,hw'⟩=>?_
 subst he
 subst hw'
 have hge:=grownCap_ge w (0+n) 0 50
 have hle:=grownCap_le_maxLen w (0+n) 0 50 (by unfold maxLen;omega)
 have hG:grownCap w (0+n) 0 (Tryz.growV_ren.t 25)=grownCap w (0+n) 0 50:=rfl
 rw [hG]
 generalize grownCap w (0+n) 0 50=G at hge hle
 have hx2:Ext w (w.drew.alloc (.cells (([]:List Value).toArray++Builtin.zeroCells (Value.agg #[.int .i64 0,.int .i64 0]).cells (0+n-0)++Builtin.zeroCells (Value.agg #[.int .i64 0,.int .i64 0]).cells (G-(0+n))) (Tryz.growV_ren.t 25))):=(Ext.refl w).drew.alloc _
 have hb2:∀ k,(Zp (.slice (some ⟨w.heap.size,0,none⟩) 0 G) 50 2 RV ([]:List Vx)).blk=some k->w.heap.size≤k/\k<(w.drew.alloc (.cells (([]:List Value).toArray++Builtin.zeroCells (Value.agg #[.int .i64 0,.int .i64 0]).cells (0+n-0)++Builtin.zeroCells (Value.agg #[.int .i64 0,.int .i64 0]).cells (G-(0+n))) (Tryz.growV_ren.t 25))).heap.size:=fun k hk=>by
  cases hk
  exact ⟨Nat.le_refl _,by rw [World.size_alloc];exact Nat.lt_succ_self _⟩
 refine hK _ _ ((h (.slice (some ⟨w.heap.size,0,none⟩) 0 G)).on (hh.push hx2 hb2 ?_) (Fr.put (hf.mono fun d _ hd=>Z6 hx2 (fun k hk=>(hb2 k hk).1) hd) rfl))
 refine ZDr.2 ⟨rfl,(([]:List Value).toArray++Builtin.zeroCells (Value.agg #[.int .i64 0,.int .i64 0]).cells (0+n-0)++Builtin.zeroCells (Value.agg #[.int .i64 0,.int .i64 0]).cells (G-(0+n))).toList,?_,by simp,by omega,?_⟩
 ·have:=Z0 w.drew (.cells (([]:List Value).toArray++Builtin.zeroCells (Value.agg #[.int .i64 0,.int .i64 0]).cells (0+n-0)++Builtin.zeroCells (Value.agg #[.int .i64 0,.int .i64 0]).cells (G-(0+n))) (Tryz.growV_ren.t 25))
  rw [ZB6,List.nil_append,Array.toArray_toList]
  exact this
 ·rw [ZB6,List.nil_append]
  simp [Builtin.zeroCells,Value.cells]
  omega
end
theorem ZES {s:List Vx} (h:Z3 s=0):1≤s.length/\s.length≤8:=by have:=ZP.1 h;omega
end
section
theorem ZHB (x y:Vx) : -1≤ZA8 x y/\ZA8 x y≤1:=by rcases ZBf x y with h|h|h <;> omega
theorem ZDb:∀ (a b:List Vx),ZA7 b a = - ZA7 a b
 | [],[]=>by simp [ZA7]
 | [],_::_=>by simp [ZA7]
 | _::_,[]=>by simp [ZA7]
 | x::a,y::b=>by
  unfold ZA7
  have h:=ZHv x y
  split <;> split
  ·exact ZDb a b
  ·omega
  ·omega
  ·exact h
theorem ZDc:∀ (a b c:List Vx),ZA7 a b≤0->ZA7 b c≤0->ZA7 a c≤0/\(ZA7 a c=0->0≤ZA7 a b+ZA7 b c)
 | [],[],[],_,_=>by simp [ZA7]
 | [],[],_::_,_,_=>by simp [ZA7]
 | [],_::_,[],_,h=>by simp [ZA7] at h
 | [],_::_,_::_,_,_=>by simp [ZA7]
 | _::_,[],_,h,_=>by simp [ZA7] at h
 | _::_,_::_,[],_,h=>by simp [ZA7] at h
 | x::a,y::b,z::c,h,h'=>by
  have ih:=ZDc a b c
  unfold ZA7 at h h' ⊢
  have r1:=ZHB x y
  have r2:=ZHB y z
  by_cases e1:ZA8 x y=0
  ·have:=ZCO.1 e1
   subst this
   rw [if_pos e1] at h ⊢
   by_cases e2:ZA8 x z=0
   ·simp only [e2,if_true] at h' ⊢
    exact ih h h'
   ·rw [if_neg e2] at h'
    rw [if_neg e2]
    exact ⟨h',fun h0=>absurd h0 e2⟩
  ·rw [if_neg e1] at h ⊢
   by_cases e2:ZA8 y z=0
   ·have:=ZCO.1 e2
    subst this
    rw [if_neg e1]
    omega
   ·rw [if_neg e2] at h' ⊢
    have e3:=ZBg (by omega:ZA8 x y<0) (by omega:ZA8 y z<0)
    rw [if_neg (by omega)]
    omega
end
section
abbrev Cx:=List (List Vx)
def ZQA:Cx->List Vx->Cx
 | [],s=>[s]
 | x::l,s=>if ZA7 s x<0 then s::x::l else x::ZQA l s
def ZFy (l:Cx) (s:List Vx):Cx:=if s∈l then l else ZQA l s
def ZAY (l:Cx) (s:List Vx):Bool:=l.any fun x=>decide (s.length<x.length) && ZA1 s x
def ZPt (l:Cx) (s:List Vx):Bool:=decide (0<s.length) && !ZAY l s
def ZCv (l:Cx):Cx:=(l.filter (ZPt l)).foldl ZFy []
def ZFR:Option (List Vx)->Cx->Int
 | _,[]=>0
 | p,s::l=>if Z3 s≠0 then Z3 s else if (match p with|some u=>decide (0≤ZA7 u s)|none=>false)=true then 14 else ZFR (some s) l
def ZC2 (l:Cx):Bool:=(List.range l.length).any fun i=>(List.range l.length).any fun k=>decide (i≠k) && ZA1 (l.getD i []) (l.getD k [])
def ZAr (l:Cx):Int:=if 4096<l.length then 5 else if ZFR none l≠0 then ZFR none l else if ZC2 l=true then 7 else 0
def ZCa (c:Cx) (s:List Vx):Bool:=c.any fun f=>ZA1 s f
def ZHg (c:Cx) (s:List Vx):Cx:=c.filter fun f=>ZA1 s f
def ZBB (c:Cx) (k:Nat):Cx:=c.foldl (fun out f=>if f.length<k then out else (Zw k f).foldl ZFy out) []
theorem ZLx:∀ (l:Cx) (s:List Vx),(ZQA l s).length=l.length+1
 | [],s=>rfl
 | x::l,s=>by
  unfold ZQA
  split
  ·rfl
  ·simp [ZLx l s]
theorem ZRm (l:Cx) (s:List Vx):l.length≤(ZFy l s).length/\(ZFy l s).length≤l.length+1:=by
 unfold ZFy
 split
 ·omega
 ·rw [ZLx];omega
theorem ZGS:∀ (l out:Cx),out.length≤(l.foldl ZFy out).length/\(l.foldl ZFy out).length≤out.length+l.length
 | [],out=>by simp
 | s::l,out=>by
  have h1:=ZGS l (ZFy out s)
  have h2:=ZRm out s
  simp only [List.foldl_cons,List.length_cons]
  omega
theorem ZJI (l:Cx) (k:Nat) (h:k<l.length):ZFR (l.take k).getLast? (l.drop k)=if Z3 l[k]≠0 then Z3 l[k] else if (match (l.take k).getLast? with|some u=>decide (0≤ZA7 u l[k])|none=>false)=true then 14 else ZFR (l.take (k+1)).getLast? (l.drop (k+1)):=by
 rw [ZAx h]
 conv=>lhs;unfold ZFR
 have e:(l.take (k+1)).getLast?=some l[k]:=by rw [ZZ h,List.getLast?_append];rfl
 rw [e]
theorem ZDe (l:Cx) (k:Nat) (h:k<l.length) (h0:0<k):(l.take k).getLast?=some l[k-1]:=by
 rw [List.getLast?_eq_getElem?,List.length_take,Nat.min_eq_left (by omega),List.getElem?_take_of_lt (by omega),List.getElem?_eq_getElem (by omega)]
end
section
open Go.RowKit
theorem ZBQ {ops:Array Oper} {o:Oper} {fr:List Dat} {gi:Nat} {pol:Bool} {t:Tmp} (hg:o.guard=some (gi,pol)) (ht:(ops[gi]?).bind (·.dst)=some t) (hf:fr[t]?=some (dX undef)):WantS ops o fr false:=WantS.mk fun I w a ho=>by
 have h1:a.tmps.getD t undef=undef:=ho.2 t (ZJd hg ht) _ hf
 have hlt:t<a.tmps.size:=by rw [ho.1];exact (List.getElem?_eq_some_iff.1 hf).1
 have h2:a.tmps[t]?=some undef:=by
  rw [Array.getD_eq_getD_getElem?] at h1
  rw [Array.getElem?_eq_getElem hlt] at h1 ⊢
  simpa using h1
 simp [Region.wanted,hg,yielded,ht,h2,undef]
end
end Go.Proofs.YtekiljakcngcoaaGreatDoor
