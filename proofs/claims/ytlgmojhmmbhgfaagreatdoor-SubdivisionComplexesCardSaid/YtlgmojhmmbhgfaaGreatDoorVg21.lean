/- Part 21: walks by contracts, and plain laws. -/
import Derived.Shelf.SlSortCmp.NoneTotal
import Derived.Shelf.Spec.SlicesGrow
import Derived.Test.YtlgmojhmmbhgfaaGreatDoorVg19
import Derived.Test.YtlgmojhmmbhgfaaGreatDoorVg20
set_option linter.unusedVariables false
set_option linter.unusedSimpArgs false
set_option linter.unusedSectionVars false
set_option maxRecDepth 100000
set_option maxHeartbeats 4000000
namespace Go.Proofs.YtlgmojhmmbhgfaaGreatDoor.M
section
open Go.RowKit

theorem ZSs (x:Int):Fn Tryz.prog 142 [dI x] (dB false):=by
 (refine ZG Tryz.func142 rfl rfl ?_;simp only [Tryz.ntmps142,List.length_cons,List.length_nil,Nat.reduceAdd,Nat.reduceSub,List.replicate_succ,List.replicate_zero,List.cons_append,List.nil_append])
 ((repeat' (first|(apply ZJ;(focus (apply ZF;(exact ZR rfl);(first|(apply SY.move <;> (exact oD))|(apply SY.assign <;> (exact oD)))));dsimp only [ZB,z0,z1])|refine WL.nil ?_|refine ZA fun Kx hK=>?_|(refine hK _ _ ?_;clear hK)|refine WC.region ?_|(apply ZJ;(focus (apply ZF;(exact ZR rfl);((first|((first|apply SY.move|apply SY.assign|apply SY.neq) <;> (exact oD))|fail);all_goals infer_instance)));dsimp only [ZB,z0,z1])|refine WC.ret ?_));all_goals (first|((repeat clear hK);(repeat clear Kx))))
 all_goals ((refine ⟨trivial,_,rfl,?_⟩;refine FinD.b ?_);simp)
theorem ZNa (x y:Int):Fn Tryz.prog 130 [dI x,dI y] (dI (ZSX x y)):=by
 (refine ZG Tryz.func130 rfl rfl ?_;simp only [Tryz.ntmps130,List.length_cons,List.length_nil,Nat.reduceAdd,Nat.reduceSub,List.replicate_succ,List.replicate_zero,List.cons_append,List.nil_append])
 ((repeat' (first|(apply ZJ;(focus (apply ZF;(exact ZR rfl);(first|(apply SY.move <;> (exact oD))|(apply SY.assign <;> (exact oD)))));dsimp only [ZB,z0,z1])|refine WL.nil ?_|refine ZA fun Kx hK=>?_|(refine hK _ _ ?_;clear hK)|refine WC.region ?_|(apply ZJ;(focus (apply ZF;(exact ZR rfl);((first|(apply SY.call (ZSs _) Tryz.call142;(exact aD))|((first|apply SY.move|apply SY.assign|apply SY.lss|apply SY.gtr) <;> (exact oD))|fail);all_goals infer_instance)));dsimp only [ZB,z0,z1])|(apply Zi;(exact oD);(with_reducible rfl))|(apply ZC;(exact oD);(all_goals intro h);(all_goals try (exfalso;first|omega|contradiction)))|refine WC.skip ?_|refine WC.ret ?_|refine ThenD.r ?_));all_goals (first|((repeat clear hK);(repeat clear Kx))))
 all_goals ((refine ⟨trivial,_,rfl,?_⟩;refine FinD.i ?_);unfold ZSX;simp [*])
 all_goals omega
theorem ZSy (l:List Int):Fn Tryz.prog 129 [dS ZBt l] (dI (orI l)):=by
 (refine ZG Tryz.func129 rfl rfl ?_;simp only [Tryz.ntmps129,List.length_cons,List.length_nil,Nat.reduceAdd,Nat.reduceSub,List.replicate_succ,List.replicate_zero,List.cons_append,List.nil_append])
 (repeat' (first|(apply ZJ;(focus (apply ZF;(exact ZR rfl);(first|(apply SY.move <;> (exact oD))|(apply SY.assign <;> (exact oD))|(apply SY.load;(exact tD);(exact OpD.t rfl)))));dsimp only [ZB,z0,z1])|refine WL.nil ?_|refine ZA fun Kx hK=>?_|(refine hK _ _ ?_;clear hK)|refine WC.region ?_|(apply ZJ;(focus (apply ZF;(exact ZR rfl);((first|(apply SY.len;(exact oD);(exact nD);(exact uD))|fail);all_goals infer_instance)));dsimp only [ZB,z0,z1])|refine WC.block ?_))
 (first|refine ZS (t:=0) rfl ZFJ fun hl0=>?_|refine ZS (t:=0) rfl ZFI fun hl0=>?_);simp only [maxLen] at hl0
 (refine WC.loopU (X:=Nat) (fun k=>[(8,dI (k:Int)),(2,dA),(5,dA),(9,dA),(10,dA),(11,dA),(12,dA),(13,dA),(14,dA),(15,dA),(16,dA)]) (fun k=>[]) (fun k=>l.length-k) (fun k=>k≤l.length/\orI l=orI (l.drop k)) 0 ?start ?frame0 ?objs0 ?round)
 case start=>exact ⟨Nat.zero_le _,rfl⟩
 case frame0=>((try dsimp only [ZK,z0,z1]);repeat (first|exact LeF.nil|refine ZD (k:=?_)))
 case objs0=>rfl
 case round =>
  rintro k ⟨h1,h2⟩
  dsimp only [ZK,z0,z1]
  ((repeat' (first|(apply ZJ;(focus (apply ZF;(exact ZR rfl);(first|(apply SY.move <;> (exact oD))|(apply SY.assign <;> (exact oD))|(apply SY.load;(exact tD);(exact OpD.t rfl)))));dsimp only [ZB,z0,z1])|refine WL.nil ?_|refine ZA fun Kx hK=>?_|(refine hK _ _ ?_;clear hK)|(refine Kont.skip ?_;clear hK)|refine WC.region ?_|(apply ZJ;(focus (apply ZF;(exact ZR rfl);((first|((first|apply SY.move|apply SY.assign|apply SY.lss|apply SY.neq) <;> (exact oD))|((first|apply SY.add) <;> first|exact oD|omega)|(apply ZAw;(exact eD);(exact oD);(exact oD);exact kD)|fail);all_goals infer_instance)));dsimp only [ZB,z0,z1])|(apply ZC;(exact oD);(all_goals intro h);(all_goals try (exfalso;first|omega|contradiction)))|(apply ZL;(exact oD);(all_goals intro h);(all_goals try (exfalso;first|omega|contradiction)))|refine WC.skip ?_|refine WC.ret ?_|refine WC.exit ?_|refine WC.block ?_|refine ThenD.n ?_|refine ThenD.r ?_|refine InBlockD.r ?_));all_goals (first|((repeat clear hK);(repeat clear Kx))))
  ·(refine ⟨trivial,_,rfl,?_⟩;refine FinD.i ?_)
   rw [h2,ZFi (by omega),if_neg h]
  ·(refine ⟨k+1,?_,by first|omega|(simp only;omega),rfl,?_⟩;rotate_left;((try dsimp only [ZK,z0,z1]);repeat (first|exact LeF.nil|refine ZD (k:=?_)));(try dsimp only))
   exact ⟨by omega,by rw [h2,ZFi (by omega),if_pos h]⟩
  ·(refine ⟨trivial,_,rfl,?_⟩;refine FinD.i ?_)
   rw [h2,List.drop_of_length_le (by omega)];rfl
theorem ZH1 (x y:Vx):Fn Tryz.prog 100 [dS RV x,dS RV y] (dI (ZA0 x y)):=by
 (refine ZG Tryz.func100 rfl rfl ?_;simp only [Tryz.ntmps100,List.length_cons,List.length_nil,Nat.reduceAdd,Nat.reduceSub,List.replicate_succ,List.replicate_zero,List.cons_append,List.nil_append])
 ((repeat' (first|((first|apply ZJ|apply WD.op);(focus (apply ZF;(exact ZR rfl);(first|(apply SY.assign <;> (exact oD))|(apply SY.load;(exact tD);(exact OpD.t rfl)))));dsimp only [ZB,z0,z1])|refine WL.nil ?_|refine WD.nil ?_|refine ZA fun Kx hK=>?_|(refine hK _ _ ?_;clear hK)|refine WC.region ?_|(apply WC.draw;kernel_rfl;kernel_rfl)|((first|apply ZJ|apply WD.op);(focus (apply ZF;(exact ZR rfl);((first|(apply SY.call (ZNa _ _) Tryz.call130;(exact aD))|(apply SY.call (ZSy [_,_]) Tryz.call129;(exact aD))|(first|(apply SY.fld0 vxT <;> (exact oD))|(apply SY.fld1 vxT <;> (exact oD)))|(apply SY.build1';(exact eD);((try simp only [List.map_cons,List.map_nil]);(repeat (first|exact Zq|(apply Zh;(first|exact OpD.t rfl|exact OpD.i|exact OpD.b|exact OpD.tle rfl (by first|exact ZI|exact ZH (by decide))|exact ⟨ZI⟩|exact ⟨ZH (by decide)⟩)))));rfl;rfl;(intro _;first|exact ZAb|exact ZA4|exact ZAa|exact ZBP);(exact (by simp)))|(apply SY.box;(exact oD);(exact hD))|fail);all_goals infer_instance)));dsimp only [ZB,z0,z1])|refine WC.ret ?_));all_goals (first|((repeat clear hK);(repeat clear Kx))))
 all_goals ((refine ⟨trivial,_,rfl,?_⟩;refine FinD.i ?_);exact ZNc _ _)
theorem Ext.grow {w w':World} (h:Ext w w'):∃ q os',w'=Go.Sort.grow (w.drewN q) os':=by
 refine ⟨w'.drawn-w.drawn,w'.heap.extract w.heap.size w'.heap.size,?_⟩
 have hd:=h.d
 have hs:=h.b.size
 have hh:w'.heap=w.heap++w'.heap.extract w.heap.size w'.heap.size:=by
  apply Array.ext
  ·simp;omega
  ·intro i h1 h2
   by_cases hi:i<w.heap.size
   ·have:=h.b.block i hi
    rw [Array.getElem?_eq_getElem h1,Array.getElem?_eq_getElem hi] at this
    rw [Array.getElem_append_left hi]
    exact Option.some.inj this
   ·rw [Array.getElem_append_right (by omega),Array.getElem_extract]
    congr 1
    omega
 unfold Go.Sort.grow World.drewN
 cases w'
 cases w
 simp only at hd hh
 have h1:=h.b.os;have h2:=h.b.tape;have h3:=h.b.output
 simp only at h1 h2 h3
 subst h1;subst h2;subst h3
 simp only [World.mk.injEq,true_and,and_true]
 exact ⟨hh,by omega⟩
theorem ZS2 (x y:Vx) (w:World):Calls Tryz.prog 100 #[.agg #[.int .i64 x.1,.int .i64 x.2],.agg #[.int .i64 y.1,.int .i64 y.2]] w fun e w'=>e = .returned (.int .i64 (ZA0 x y))/\∃ q os',w'=Go.Sort.grow (w.drewN q) os':=by
 have:=(ZH1 x y).out (fun _=>True) w [.agg #[.int .i64 x.1,.int .i64 x.2],.agg #[.int .i64 y.1,.int .i64 y.2]] rfl (fun i d hd=>by
  match i with
  | 0=>cases hd;rfl
  | 1=>cases hd;rfl
  | i+2=>simp at hd)
 exact this.mono fun e w' ⟨v,h1,h2,h3⟩=>⟨by rw [h1];exact congrArg _ h3,h2.grow⟩

end
end Go.Proofs.YtlgmojhmmbhgfaaGreatDoor.M
namespace Go.Proofs
section
open Go.Shelf
def Tryz.sortV_ren:Go.Shelf.Ren:=⟨fun|6=>62|15=>98|14=>97|28=>127|29=>128|20=>119|21=>120|22=>121|23=>122|24=>123|25=>124|26=>125|27=>126|46=>137|47=>138|48=>139|49=>140|50=>141|57=>155|n=>n,fun|22=>28|24=>43|25=>105|3=>3|39=>136|0=>0|53=>158|55=>160|4=>4|46=>152|45=>151|50=>39|5=>5|9=>9|66=>168|70=>172|76=>182|77=>183|n=>n,fun|n=>n⟩
theorem Tryz.sortV:Go.Proofs.SlLaysF0.n6 Tryz.prog Tryz.sortV_ren:={
 mixed:=by kernel_rfl
 f6:=⟨Tryz.f62.name,by decide,Tryz.func62.trans (congrArg some (by kernel_rfl))⟩
 f14:=⟨Tryz.f97.name,by decide,Tryz.func97.trans (congrArg some (by kernel_rfl))⟩
 f15:=Tryz.func98.trans (congrArg some (by kernel_rfl))
 f20:=⟨Tryz.f119.name,by decide,Tryz.func119.trans (congrArg some (by kernel_rfl))⟩
 f21:=⟨Tryz.f120.name,by decide,Tryz.func120.trans (congrArg some (by kernel_rfl))⟩
 f22:=⟨Tryz.f121.name,by decide,Tryz.func121.trans (congrArg some (by kernel_rfl))⟩
 f23:=⟨Tryz.f122.name,by decide,Tryz.func122.trans (congrArg some (by kernel_rfl))⟩
 f24:=⟨Tryz.f123.name,by decide,Tryz.func123.trans (congrArg some (by kernel_rfl))⟩
 f25:=⟨Tryz.f124.name,by decide,Tryz.func124.trans (congrArg some (by kernel_rfl))⟩
 f26:=⟨Tryz.f125.name,by decide,Tryz.func125.trans (congrArg some (by kernel_rfl))⟩
 f27:=⟨Tryz.f126.name,by decide,Tryz.func126.trans (congrArg some (by kernel_rfl))⟩
 f28:=Tryz.func127.trans (congrArg some (by kernel_rfl))
 f29:=Tryz.func128.trans (congrArg some (by kernel_rfl))
 f46:=⟨Tryz.f137.name,by decide,Tryz.func137.trans (congrArg some (by kernel_rfl))⟩
 f47:=Tryz.func138.trans (congrArg some (by kernel_rfl))
 f48:=Tryz.func139.trans (congrArg some (by kernel_rfl))
 f49:=⟨Tryz.f140.name,by decide,Tryz.func140.trans (congrArg some (by kernel_rfl))⟩
 f50:=⟨Tryz.f141.name,by decide,Tryz.func141.trans (congrArg some (by kernel_rfl))⟩
 f57:=⟨Tryz.f155.name,by decide,Tryz.func155.trans (congrArg some (by kernel_rfl))⟩
 t0:=Tryz.underlying0
 a0:=Tryz.isAgg0
 z0:=Tryz.sizeOf0
 v0:=Tryz.zeroValue0
 t3:=Tryz.underlying3
 a3:=Tryz.isAgg3
 z3:=Tryz.sizeOf3
 v3:=Tryz.zeroValue3
 t4:=Tryz.underlying4
 a4:=Tryz.isAgg4
 z4:=Tryz.sizeOf4
 v4:=Tryz.zeroValue4
 t5:=Tryz.underlying5
 a5:=Tryz.isAgg5
 z5:=Tryz.sizeOf5
 v5:=Tryz.zeroValue5
 t9:=Tryz.underlying9
 a9:=Tryz.isAgg9
 z9:=Tryz.sizeOf9
 v9:=Tryz.zeroValue9
 t22:=Tryz.underlying28
 a22:=Tryz.isAgg28
 z22:=Tryz.sizeOf28
 v22:=Tryz.zeroValue28
 t25:=Tryz.underlying105
 a25:=Tryz.isAgg105
 z25:=Tryz.sizeOf105
 v25:=Tryz.zeroValue105
 t39:=Tryz.underlying136
 a39:=Tryz.isAgg136
 z39:=Tryz.sizeOf136
 v39:=Tryz.zeroValue136
 t45:=Tryz.underlying151
 a45:=Tryz.isAgg151
 z45:=Tryz.sizeOf151
 v45:=Tryz.zeroValue151
 t46:=Tryz.underlying152
 a46:=Tryz.isAgg152
 z46:=Tryz.sizeOf152
 v46:=Tryz.zeroValue152
 t50:=Tryz.underlying39
 a50:=Tryz.isAgg39
 z50:=Tryz.sizeOf39
 v50:=Tryz.zeroValue39
 t53:=Tryz.underlying158
 a53:=Tryz.isAgg158
 z53:=Tryz.sizeOf158
 v53:=Tryz.zeroValue158
 t55:=Tryz.underlying160
 a55:=Tryz.isAgg160
 z55:=Tryz.sizeOf160
 v55:=Tryz.zeroValue160
 t66:=Tryz.underlying168
 a66:=Tryz.isAgg168
 z66:=Tryz.sizeOf168
 v66:=Tryz.zeroValue168
 t70:=Tryz.underlying172
 a70:=Tryz.isAgg172
 z70:=Tryz.sizeOf172
 v70:=Tryz.zeroValue172
 t76:=Tryz.underlying182
 a76:=Tryz.isAgg182
 z76:=Tryz.sizeOf182
 v76:=Tryz.zeroValue182
 t77:=Tryz.underlying183
 a77:=Tryz.isAgg183
 z77:=Tryz.sizeOf183
 v77:=Tryz.zeroValue183 }
end
end Go.Proofs
namespace Go.Proofs.YtlgmojhmmbhgfaaGreatDoor
section
open Go.RowKit Go.Sort Go.Shelf

theorem swoV:SWO (ltOf ZA0) where
 irrefl x:=by simp [ltOf,ZCR.2 (rfl:x=x)]
 trans x y z h h':=by
  simp only [ltOf,decide_eq_true_eq] at *
  exact ZBg h h'
 ntrans x y z h h':=by
  simp only [ltOf,decide_eq_false_iff_not] at *
  intro hc
  rcases ZBf x y with k|k|k
  ·omega
  ·have:=ZBg (a:=y) (b:=x) (c:=z) (by omega) hc
   exact h' this
  ·exact h' (k.2.2 ▸ hc)
theorem ZI3 {d:Array Vx}:(flatK ZCK 2 d).toList=(d.toList.map ZCK).flatten:=by
 apply List.ext_getElem?
 intro t
 have hl:∀ u∈d.toList.map ZCK,u.length=2:=fun u hu=>by obtain ⟨x,_,rfl⟩:=List.mem_map.1 hu;rfl
 have hlen:((d.toList.map ZCK).flatten).length=d.size*2:=by
  rw [List.length_flatten]
  have:(List.map List.length (d.toList.map ZCK))=List.replicate d.size 2:=by
   rw [List.eq_replicate_iff]
   refine ⟨by simp,fun b hb=>?_⟩
   obtain ⟨u,hu,rfl⟩:=List.mem_map.1 hb
   exact hl u hu
  rw [this];simp
 by_cases ht:t<d.size*2
 ·have h1:t / 2<(d.toList.map ZCK).length:=by simp;omega
  have h2:t % 2<2:=Nat.mod_lt _ (by decide)
  have h3:((d.toList.map ZCK)[t / 2]'h1)[t % 2]?=some ((ZCK (d[t / 2]'(by omega)))[t % 2]'(by simp [ZCK];omega)):=by
   simp
  have h4:=Zm hl h1 h3
  have h5:t / 2*2+t % 2=t:=by omega
  rw [h5] at h4
  rw [h4]
  have h6:=get_flatK ZCK 2 d t ht
  rw [Array.getElem?_toList]
  have h7:t<(flatK ZCK 2 d).size:=by simp;omega
  rw [getElem!_pos _ t h7,getElem!_pos d (t / 2) (by omega),getElem!_pos _ (t % 2) (by simp [ZCK];omega)] at h6
  rw [Array.getElem?_eq_getElem h7,h6]
 ·rw [List.getElem?_eq_none (by simp;omega),List.getElem?_eq_none (by omega)]
section
variable {w:World} {g n cap:Nat} {os:Array Obj} {cur:Array Value} {e:TypeId} {fz:Nat × Nat}
theorem ZJD {F:Array Value} (hb:w.heap[g]?=some (.cells cur e (0,0))) (ht:cur.toList.take F.size=F.toList):Holds id w g 0 F:=by
 intro j hj
 refine ⟨?_,by simp [World.frozen?,hb]⟩
 have h1:(cur.toList.take F.size)[j]?=F.toList[j]?:=by rw [ht]
 rw [List.getElem?_take_of_lt hj] at h1
 simp only [World.cell?,hb,Nat.zero_add]
 simp only [Option.isSome_none,Bool.false_eq_true,if_false]
 rw [<- Array.getElem?_toList,h1,getElem!_pos _ j hj]
 simp [hj]
theorem ZJC (F:Array Value) (hb:w.heap[g]?=some (.cells cur e fz)) :
  (grow (putRow id (Sort.ahead w n) g 0 F) os).heap[g]?=some (.cells (putCells id 0 F cur) e fz):=by
 have hg:g<w.heap.size:=(Array.getElem?_eq_some_iff.1 hb).1
 rw [heap_grow_old _ _ (by simpa using hg)]
 simp [putRow,mapBlock,Sort.ahead,Array.getElem?_modify,hb,onCells]
theorem ZGJ (F:Array Value):w.grownBy (grow (putRow id (Sort.ahead w n) g 0 F) os) (some g):=by
 refine ⟨rfl,rfl,rfl,by simp,fun k hk hne=>?_⟩
 rw [heap_grow_old _ _ (by simpa using hk)]
 have:g≠k:=fun e=>hne (by rw [e])
 simp [putRow,mapBlock,Sort.ahead,Array.getElem?_modify,this]
theorem ZGo (cur F:Array Value) (h:F.size≤cur.size):(putCells id 0 F cur).toList.take F.size=F.toList:=by
 apply List.ext_getElem?
 intro j
 by_cases hj:j<F.size
 ·rw [List.getElem?_take_of_lt hj,Array.getElem?_toList]
  simp [putCells,hj,show j<cur.size by omega]
 ·rw [List.getElem?_take_eq_none (by omega),List.getElem?_eq_none (by simp;omega)]
end
section
variable {ops:Array Oper} {hp:List HObj} {fr:List Dat} {Q:ZAL} {rest:List Oper} {dst:Option Tmp} {ty:TypeId} {ps:String} {af:Array Edge}
theorem ZEM {cf:FuncId} (hce:ZAf Tryz.prog cf) (hcx:∀ (x y:Vx) (w:World),Calls Tryz.prog cf #[.agg #[.int .i64 x.1,.int .i64 x.2],.agg #[.int .i64 y.1,.int .i64 y.2]] w fun e w'=>e = .returned (.int .i64 (ZA0 x y))/\∃ q os',w'=Go.Sort.grow (w.drewN q) os') {x:Operand} {v:Value} {e:TypeId} {xs:List Vx} {ats:Array TypeId} (hx:OpD fr x (dX v)) (hlen:xs.length<4611686018427387904)
  (h:∀ ys:List Vx,ys.Perm xs->ys.Pairwise (fun a b=>¬ ZA0 b a<0)->WL Tryz.prog ops Q rest (ZB fr dst dA) (ZV v e 2 RV ys::hp)) :
  WL Tryz.prog ops Q (⟨dst,.call { callee:=.value (.func 62),args:=#[x,.func cf],argTypes:=ats },ty,ps,af,none⟩::rest) fr (ZV v e 2 RV xs::hp):=by
 refine WL.of fun P0 B w0 w a hh hf=>?_
 have hok:=hh.ok (ZV v e 2 RV xs) (by simp)
 obtain ⟨us,h1,h2,h0,h3,h4⟩:=hok
 have hus:=ZKV h1 h4
 subst hus
 have hev:a.eval x=v:=hx.ev hf
 obtain ⟨hfl,hv⟩:=h3
 by_cases hne0:xs=[]
 ·subst hne0
  have hv0:∃ p cap,v = .slice p 0 cap:=by
   rcases hv with ⟨hv,_⟩|⟨g,cap,cur,hv,_⟩
   ·exact ⟨_,_,hv⟩
   ·exact ⟨_,_,hv⟩
  obtain ⟨p,cap,hv0⟩:=hv0
  have hcon:=AnyF.slices_SortFunc_none (P:=Tryz.prog) (ρ:=Tryz.sortV_ren) Tryz.sortV p cap (.func (.func cf) #[] #[]) w
  change Calls Tryz.prog 62 _ _ _ at hcon
  have hrun:(execOp a.eval ⟨dst,.call { callee:=.value (.func 62),args:=#[x,.func cf],argTypes:=ats },ty,ps,af,none⟩).run Tryz.prog w = .ok (.enter 62 #[v,.func (.func cf) #[] #[]]) w:=by
   unfold execOp
   simp only [resolve]
   have he:(#[x,Operand.func cf]:Array Operand).map a.eval=#[v,.func (.func cf) #[] #[]]:=by simp [hev];rfl
   rw [he]
   simp [Act.eval,Deferred.ofValue,invoke,Tryz.call62]
  refine wpList_plain rfl fun K hK=>?_
  unfold Oper.wp
  rw [hrun,hv0]
  refine hcon.mono fun e' w' ⟨he,hw'⟩=>?_
  subst he
  subst hw'
  exact hK _ _ ((h [] (List.Perm.refl _) List.Pairwise.nil).on hh (hf.put (d:=dA) trivial))
 have hne:0<xs.length:=List.length_pos_iff.2 hne0
 rcases hv with ⟨_,hz⟩|⟨g,cap,cur,hv,hB,hg,hc1,hc2,hc3,hc4⟩
 ·omega
 have hgb:g<w.heap.size:=(Array.getElem?_eq_some_iff.1 hg).1
 have hF:(flatK ZCK 2 xs.toArray).toList=(xs.map ZCK).flatten:=by rw [ZI3]
 have hFs:(flatK ZCK 2 xs.toArray).size=xs.length*2:=by simp
 have hH:HoldsK ZCK 2 w g 0 xs.toArray:=ZJD hg (by rw [hFs,hF];exact hc4)
 have hcon:=AnyQ.slices_SortFunc Tryz.sortV 2 Tryz.isAgg43 Tryz.sizeOf43 ZCK (fun _=>rfl) (fun x v hv=>by simp [ZCK] at hv;rcases hv with rfl|rfl <;> rfl) ZA0 swoV cf #[] g 0 cap xs.toArray w hce
  (fun _ _ _ _ x y=>hcx x y _) hH hgb (by simpa using hlen)
 change Calls Tryz.prog 62 _ _ _ at hcon
 subst hv
 have hrun:(execOp a.eval ⟨dst,.call { callee:=.value (.func 62),args:=#[x,.func cf],argTypes:=ats },ty,ps,af,none⟩).run Tryz.prog w = .ok (.enter 62 #[.slice (some ⟨g,0,none⟩) xs.toArray.size cap,.func (.func cf) #[] #[]]) w:=by
  unfold execOp
  simp only [resolve]
  have he:(#[x,Operand.func cf]:Array Operand).map a.eval=#[.slice (some ⟨g,0,none⟩) xs.toArray.size cap,.func (.func cf) #[] #[]]:=by simp [hev];rfl
  rw [he]
  simp [Act.eval,Deferred.ofValue,invoke,Tryz.call62]
 refine wpList_plain rfl fun K hK=>?_
 unfold Oper.wp
 rw [hrun]
 refine hcon.mono fun e' w' ⟨he,d',n,os,hp1,hs,hw'⟩=>?_
 subst he
 subst hw'
 obtain ⟨q1,_,q3⟩:=hp1
 have hsz:d'.size=xs.length:=by simpa using q1
 have hperm:d'.toList.Perm xs:=by
  have:xs.toArray.size=d'.size:=by simp [hsz]
  rw [this] at q3
  have e1:d'.extract 0 d'.size=d':=by simp
  have e2:xs.toArray.extract 0 d'.size=xs.toArray:=by rw [hsz];simp
  rw [e1,e2] at q3
  exact q3
 have hsort:d'.toList.Pairwise (fun a b=>¬ ZA0 b a<0):=by
  rw [List.pairwise_iff_getElem]
  intro i j hi hj hij
  have hi':i<d'.size:=by simpa using hi
  have hj':j<d'.size:=by simpa using hj
  have:=hs i j (Nat.zero_le _) hij (by simp;omega)
  rw [getElem!_pos d' i hi',getElem!_pos d' j hj'] at this
  simpa [ltOf] using this
 have hF':(flatK ZCK 2 d').toList=(d'.toList.map ZCK).flatten:=ZI3
 have hFs':(flatK ZCK 2 d').size=d'.toList.length*2:=by simp
 have hgr:w.grownBy (sortWorldK ZCK 2 w g 0 n d' os) (ZV (.slice (some ⟨g,0,none⟩) xs.length cap) e 2 RV xs).blk:=ZGJ _
 have hlen':d'.toList.length=xs.length:=by simpa using hsz
 have hok:(ZV (.slice (some ⟨g,0,none⟩) xs.length cap) e 2 RV d'.toList).ok (fun k=>Imm P0 B (ZV (.slice (some ⟨g,0,none⟩) xs.length cap) e 2 RV xs::hp) k/\k<w.heap.size) (sortWorldK ZCK 2 w g 0 n d' os):=by
  refine ⟨d'.toList.map ZCK,by simp,fun u hu=>?_,by decide,⟨?_,.inr ⟨g,cap,putCells _root_.id 0 (flatK ZCK 2 d') cur,?_,hB,ZJC _ hg,by omega,hc2,by simp [putCells,hc3],?_⟩⟩,fun k h h'=>?_⟩
  ·obtain ⟨y,_,rfl⟩:=List.mem_map.1 hu
   exact ⟨rfl,by simp [ZCK,Value.oneCell']⟩
  ·rw [<- hF',Array.length_toList,hFs']
  ·rw [hlen']
  ·rw [<- hFs',<- hF']
   exact ZGo _ _ (by rw [hFs',hlen',hc3];exact Nat.mul_le_mul_right _ hc1)
  ·show Value.agg _=_
   rw [List.getElem_map]
   rfl
 exact hK _ _ ((h d'.toList hperm hsort).on (hh.write hgr (.inl rfl) hok) (Fr.put (hf.mono fun _ _ hd=>ZM (o':=ZV (.slice (some ⟨g,0,none⟩) xs.length cap) e 2 RV d'.toList) hgr (.inl rfl) hd) (d:=dA) trivial))
theorem ZPp {x:Operand} {v:Value} {e:TypeId} {xs:List Vx} {ats:Array TypeId} (hx:OpD fr x (dX v)) (_hne:0<xs.length) (hlen:xs.length<4611686018427387904)
  (h:∀ ys:List Vx,ys.Perm xs->ys.Pairwise (fun a b=>¬ ZA0 b a<0)->WL Tryz.prog ops Q rest (ZB fr dst dA) (ZV v e 2 RV ys::hp)) :
  WL Tryz.prog ops Q (⟨dst,.call { callee:=.value (.func 62),args:=#[x,.func 100],argTypes:=ats },ty,ps,af,none⟩::rest) fr (ZV v e 2 RV xs::hp) :=
 ZEM Tryz.call100 (fun x y w=>M.ZS2 x y w) hx hlen h
end
end
section
open Go.RowKit

set_option maxHeartbeats 4000000 in
theorem of_p (l:List Vx) (hl:l.length≤100):Fn Tryz.prog 86 [dS ZE l] (dT [dS ZE (ofV l).1,dI (ofV l).2]):=by
 (refine ZBF Tryz.func86 rfl rfl ?_;simp only [Tryz.ntmps86,List.length_cons,List.length_nil,Nat.reduceAdd,Nat.reduceSub,List.replicate_succ,List.replicate_zero,List.cons_append,List.nil_append])
 ((repeat' (first|(apply WL.opN;exact yF;dsimp only [ZB,z0,z1])|refine WL.nil ?_|refine ZA fun Kx hK=>?_|(refine hK _ _ ?_;clear hK)|refine WC.region ?_|(apply WL.opN;(focus ((first|exact ZKZ|exact ZBs|fail);all_goals infer_instance));dsimp only [ZB,z0,z1])|(apply ZC;(exact oD);all_goals (intro h;try exact xD))|refine WC.skip ?_|refine WC.ret ?_|refine WC.block ?_|refine ThenD.r ?_));all_goals (first|refine WC.id ?_|((repeat clear hK);(repeat clear Kx))))
 ·(refine ⟨trivial,⟨_,rfl,?_⟩,_,rfl,?_⟩ <;> (first|refine FinD.i ?_|refine ZB4 (by decide) ?_)) <;> ((unfold ofV;(repeat' split)) <;> (first|rfl|(exfalso;first|contradiction|omega)|(simp_all;done)))
 ·have hne:l.length≠0:=by omega
  (refine WC.loopU (X:=Nat) (fun k=>[(12,dI (k:Int)),(2,dA),(3,dA),(5,dA),(13,dA),(14,dA),(15,dA),(16,dA),(17,dA),(18,dA),(19,dA)]) (fun k=>[]) (fun k=>l.length-k) (fun k=>k≤l.length/\(l.take k).all ZEt=true) 0 ?start ?frame0 ?objs0 ?round)
  case start=>simp
  case frame0=>((try dsimp only [ZK,z0,z1]);repeat (first|exact LeF.nil|refine ZD (k:=?_)))
  case objs0=>rfl
  case round =>
   rintro k ⟨h1,h2⟩
   dsimp only [ZK,z0,z1]
   ((repeat' (first|(apply WL.opN;exact yF;dsimp only [ZB,z0,z1])|refine WL.nil ?_|refine ZA fun Kx hK=>?_|(refine hK _ _ ?_;clear hK)|(refine Kont.skip ?_;clear hK)|refine WC.region ?_ |  (apply ZIc (by decide) (ZSU l (by omega)) Tryz.call65;(exact aD);intro vc;dsimp only [ZB,z0,z1]) |  (apply ZPp;exact OpD.t rfl;omega;omega;intro ys hperm hsort;dsimp only [ZB,z0,z1]) |  (refine ZHP (ZIu ys vc hsort (by rw [hperm.length_eq];omega)) Tryz.call109 ?_ ?_;(exact aD);intro vd zs hzs;dsimp only [ZB,z0,z1])|(apply WL.alloc;(exact tzV);(first|exact ZY rfl|exact ZAF);(intro _;dsimp only [ZB,z0,z1]))|(apply ZN;(exact tD);rfl;(exact oD);(exact hD);dsimp only [ZB,z0,z1])|(apply WL.opN;(focus ((first|(apply SY.call (ZHC _) Tryz.call103;(exact aD))|exact ZCJ|exact ZIM|exact ZMd|exact ZC1|exact ZBs|exact ZX|fail);all_goals infer_instance));dsimp only [ZB,z0,z1])|(apply ZC;(exact oD);all_goals (intro h;try exact xD))|(apply Z7;(exact oD);all_goals (intro h;try exact xD))|refine WC.skip ?_|refine WC.ret ?_|refine WC.exit ?_|refine WC.block ?_|refine ThenD.n ?_|refine ThenD.r ?_|refine InBlockD.r ?_));all_goals (first|((repeat clear hK);(repeat clear Kx))))
   ·have h3:l.all ZEt=false:=by rw [List.all_eq_false];exact ⟨l[k],List.getElem_mem _,by simp [h]⟩
    (refine ⟨trivial,⟨_,rfl,?_⟩,_,rfl,?_⟩ <;> (first|refine FinD.i ?_|refine ZB4 (by decide) ?_)) <;> ((unfold ofV;(repeat' split)) <;> (first|rfl|(exfalso;first|contradiction|omega)|(simp_all;done)))
   ·(refine ⟨k+1,?_,by first|omega|(simp only;omega),rfl,?_⟩;rotate_left;((try dsimp only [ZK,z0,z1]);repeat (first|exact LeF.nil|refine ZD (k:=?_)));(try dsimp only))
    exact ⟨by omega,by rw [ZKw (by omega),h2,h];rfl⟩
   all_goals
    have h3:l.all ZEt=true:=by rw [List.take_of_length_le (by omega)] at h2;exact h2
    have hz:zs=ZBE [] l:=ZDD hzs.1 (ZCr (by simp [Asc])) fun u=>by rw [hzs.2,ZBm,hperm.mem_iff];simp
    clear h2
    subst hz
    (refine ⟨trivial,⟨_,rfl,?_⟩,_,rfl,?_⟩ <;> (first|refine FinD.i ?_|refine ZBQ (.head _) ?_|refine ZB4 (by decide) ?_)) <;> ((unfold ofV;(repeat' split)) <;> (first|rfl|(exfalso;first|contradiction|omega)|(simp_all;done)))

end
end Go.Proofs.YtlgmojhmmbhgfaaGreatDoor
namespace Go.Proofs
section
open Go.Shelf
def Tryz.growV_ren:Go.Shelf.Ren:=⟨fun|4=>131|n=>n,fun|22=>28|25=>43|3=>3|4=>4|9=>9|20=>20|0=>0|2=>3|n=>n,fun|n=>n⟩
theorem Tryz.growV:Go.Proofs.Lays8.n4 Tryz.prog Tryz.growV_ren:={
 mixed:=by kernel_rfl
 f4:=⟨Tryz.f131.name,by decide,Tryz.func131.trans (congrArg some (by kernel_rfl))⟩
 t0:=Tryz.underlying0
 a0:=Tryz.isAgg0
 z0:=Tryz.sizeOf0
 v0:=Tryz.zeroValue0
 t3:=Tryz.underlying3
 a3:=Tryz.isAgg3
 z3:=Tryz.sizeOf3
 v3:=Tryz.zeroValue3
 t4:=Tryz.underlying4
 a4:=Tryz.isAgg4
 z4:=Tryz.sizeOf4
 v4:=Tryz.zeroValue4
 t9:=Tryz.underlying9
 a9:=Tryz.isAgg9
 z9:=Tryz.sizeOf9
 v9:=Tryz.zeroValue9
 t20:=Tryz.underlying20
 a20:=Tryz.isAgg20
 z20:=Tryz.sizeOf20
 v20:=Tryz.zeroValue20
 t22:=Tryz.underlying28
 a22:=Tryz.isAgg28
 z22:=Tryz.sizeOf28
 v22:=Tryz.zeroValue28 }
end
end Go.Proofs
namespace Go.Proofs.YtlgmojhmmbhgfaaGreatDoor
section
open Go.RowKit

section
variable {ops:Array Oper} {hp:List HObj} {fr:List Dat} {Q:ZAL} {rest:List Oper} {dst:Option Tmp} {ty:TypeId} {ps:String} {af:Array Edge}
theorem ZPl {x:Operand} {n:Nat} {ats:Array TypeId} (hx:OpD fr x (dI (n:Int))) (h0:0<n) (hn:n≤1000)
  (h:∀ v:Value,WL Tryz.prog ops Q rest (ZB fr dst (dX v)) (ZV v 43 2 RV ([]:List Vx)::hp)) :
  WL Tryz.prog ops Q (⟨dst,.call { callee:=.value (.func 131),args:=#[.const (.slice none 0 0),x],argTypes:=ats },ty,ps,af,none⟩::rest) fr hp:=by
 refine WL.of fun P0 B w0 w a hh hf=>?_
 obtain ⟨i,hi',hz,hs,hb⟩:=info_parts elV.info
 have hcon:=Any8.slices_Grow_grow Tryz.growV i _ hi' hz (by omega) none 0 0 n [] w (Nat.le_refl _) (by omega) (by rw [hb];omega) (by omega) (by simp) (fun _=>rfl) (by simp)
 change Calls Tryz.prog 131 _ _ _ at hcon
 have hev:a.eval x = .int .i64 (n:Int):=hx.ev hf
 have hrun:(execOp a.eval ⟨dst,.call { callee:=.value (.func 131),args:=#[.const (.slice none 0 0),x],argTypes:=ats },ty,ps,af,none⟩).run Tryz.prog w = .ok (.enter 131 #[.slice none 0 0,.int .i64 n]) w:=by
  unfold execOp
  simp only [resolve]
  have he:(#[Operand.const (.slice none 0 0),x]:Array Operand).map a.eval=#[.slice none 0 0,.int .i64 n]:=by simp [hev];rfl
  rw [he]
  simp [Act.eval,Deferred.ofValue,invoke,Tryz.call131]
 refine wpList_plain rfl fun K hK=>?_
 unfold Oper.wp
 rw [hrun]
 refine hcon.mono fun e' w' ⟨he,hw'⟩=>?_
 subst he
 subst hw'
 have hge:=grownCap_ge w (0+n) 0 43
 have hle:=grownCap_le_maxLen w (0+n) 0 43 (by unfold maxLen;omega)
 have hG:grownCap w (0+n) 0 (Tryz.growV_ren.t 25)=grownCap w (0+n) 0 43:=rfl
 rw [hG]
 generalize grownCap w (0+n) 0 43=G at hge hle
 have hx2:Ext w (w.drew.alloc (.cells (([]:List Value).toArray++Builtin.zeroCells (Value.agg #[.int .i64 0,.int .i64 0]).cells (0+n-0)++Builtin.zeroCells (Value.agg #[.int .i64 0,.int .i64 0]).cells (G-(0+n))) (Tryz.growV_ren.t 25))):=(Ext.refl w).drew.alloc _
 have hb2:∀ k,(ZV (.slice (some ⟨w.heap.size,0,none⟩) 0 G) 43 2 RV ([]:List Vx)).blk=some k->w.heap.size≤k/\k<(w.drew.alloc (.cells (([]:List Value).toArray++Builtin.zeroCells (Value.agg #[.int .i64 0,.int .i64 0]).cells (0+n-0)++Builtin.zeroCells (Value.agg #[.int .i64 0,.int .i64 0]).cells (G-(0+n))) (Tryz.growV_ren.t 25))).heap.size:=fun k hk=>by
  cases hk
  exact ⟨Nat.le_refl _,by rw [World.size_alloc];exact Nat.lt_succ_self _⟩
 refine hK _ _ ((h (.slice (some ⟨w.heap.size,0,none⟩) 0 G)).on (hh.push hx2 hb2 ?_) (Fr.put (hf.mono fun d _ hd=>Zf hx2 (fun k hk=>(hb2 k hk).1) hd) rfl))
 refine ZBb.2 ⟨rfl,(([]:List Value).toArray++Builtin.zeroCells (Value.agg #[.int .i64 0,.int .i64 0]).cells (0+n-0)++Builtin.zeroCells (Value.agg #[.int .i64 0,.int .i64 0]).cells (G-(0+n))).toList,?_,by simp,by omega,?_⟩
 ·have:=Zk w.drew (.cells (([]:List Value).toArray++Builtin.zeroCells (Value.agg #[.int .i64 0,.int .i64 0]).cells (0+n-0)++Builtin.zeroCells (Value.agg #[.int .i64 0,.int .i64 0]).cells (G-(0+n))) (Tryz.growV_ren.t 25))
  rw [ZI1,List.nil_append,Array.toArray_toList]
  exact this
 ·rw [ZI1,List.nil_append]
  simp [Builtin.zeroCells,Value.cells]
  omega
end
theorem ZEQ {s:List Vx} (h:ZAJ s=0):1≤s.length/\s.length≤8:=by have:=ZO.1 h;omega
end
end Go.Proofs.YtlgmojhmmbhgfaaGreatDoor
