/- Part 14: walks by contracts, and plain laws. -/
import Derived.Shelf.SlSortCmp.NoneTotal
import Derived.Shelf.Spec.SlicesGrow
import Derived.Test.YtokmalofdapffaaGreatV12
import Derived.Test.YtokmalofdapffaaGreatV13
set_option linter.unusedVariables false
set_option linter.unusedSimpArgs false
set_option linter.unusedSectionVars false
set_option maxRecDepth 100000
set_option maxHeartbeats 4000000
namespace Go.Proofs.YtokmalofdapffaaGreat.M
section
open Go.RowKit

theorem ZRz (x:Int):Fn Tryz.prog 116 [dI x] (dB false):=by
 (refine ZG Tryz.func116 rfl rfl ?_;simp only [Tryz.ntmps116,List.length_cons,List.length_nil,Nat.reduceAdd,Nat.reduceSub,List.replicate_succ,List.replicate_zero,List.cons_append,List.nil_append])
 ((repeat' (first|(apply ZF;(focus (apply SYG.yes;(exact ZP rfl);(first|(apply SY.move <;> (exact oD))|(apply SY.assign <;> (exact oD)))));dsimp only [ZB,z0,z1])|refine WL.nil ?_|refine ZA fun Kx hK=>?_|(refine hK _ _ ?_;clear hK)|refine WC.region ?_|(apply ZF;(focus (apply SYG.yes;(exact ZP rfl);((first|((first|apply SY.move|apply SY.assign|apply SY.neq) <;> (exact oD))|fail);all_goals infer_instance)));dsimp only [ZB,z0,z1])|refine WC.ret ?_));all_goals (first|((repeat clear hK);(repeat clear Kx))))
 all_goals ((refine ⟨trivial,_,rfl,?_⟩;refine FinD.b ?_);simp)
theorem ZM2 (x y:Int):Fn Tryz.prog 85 [dI x,dI y] (dI (ZRa x y)):=by
 (refine ZG Tryz.func85 rfl rfl ?_;simp only [Tryz.ntmps85,List.length_cons,List.length_nil,Nat.reduceAdd,Nat.reduceSub,List.replicate_succ,List.replicate_zero,List.cons_append,List.nil_append])
 ((repeat' (first|(apply ZF;(focus (apply SYG.yes;(exact ZP rfl);(first|(apply SY.move <;> (exact oD))|(apply SY.assign <;> (exact oD)))));dsimp only [ZB,z0,z1])|refine WL.nil ?_|refine ZA fun Kx hK=>?_|(refine hK _ _ ?_;clear hK)|refine WC.region ?_|(apply ZF;(focus (apply SYG.yes;(exact ZP rfl);((first|(apply SY.call (ZRz _) Tryz.call116;(exact aD))|((first|apply SY.move|apply SY.assign|apply SY.lss|apply SY.gtr) <;> (exact oD))|fail);all_goals infer_instance)));dsimp only [ZB,z0,z1])|(apply Za;(exact oD);(with_reducible rfl))|(apply WC.condD;(exact oD);(all_goals intro h);(all_goals try (exfalso;first|omega|contradiction)))|refine WC.skip ?_|refine WC.ret ?_|refine ThenD.r ?_));all_goals (first|((repeat clear hK);(repeat clear Kx))))
 all_goals ((refine ⟨trivial,_,rfl,?_⟩;refine FinD.i ?_);unfold ZRa;simp [*])
 all_goals omega
theorem ZR4 (l:List Int):Fn Tryz.prog 84 [dS ZBk l] (dI (orI l)):=by
 (refine ZG Tryz.func84 rfl rfl ?_;simp only [Tryz.ntmps84,List.length_cons,List.length_nil,Nat.reduceAdd,Nat.reduceSub,List.replicate_succ,List.replicate_zero,List.cons_append,List.nil_append])
 (repeat' (first|(apply ZF;(focus (apply SYG.yes;(exact ZP rfl);(first|(apply SY.move <;> (exact oD))|(apply SY.assign <;> (exact oD))|(apply SY.load;(exact tD);(exact OpD.t rfl)))));dsimp only [ZB,z0,z1])|refine WL.nil ?_|refine ZA fun Kx hK=>?_|(refine hK _ _ ?_;clear hK)|refine WC.region ?_|(apply ZF;(focus (apply SYG.yes;(exact ZP rfl);((first|(apply SY.len;(exact oD);(exact nD);(exact uD))|fail);all_goals infer_instance)));dsimp only [ZB,z0,z1])|refine WC.block ?_))
 (first|refine ZV (t:=0) rfl ZGA fun hl0=>?_|refine ZV (t:=0) rfl ZF5 fun hl0=>?_);simp only [maxLen] at hl0
 (refine ZH (X:=Nat) (fun k=>[(8,dI (k:Int)),(2,dA),(5,dA),(9,dA),(10,dA),(11,dA),(12,dA),(13,dA),(14,dA),(15,dA),(16,dA)]) (fun k=>[]) (fun k=>l.length-k) (fun k=>k≤l.length/\orI l=orI (l.drop k)) 0 ?start ?frame0 ?objs0 ?round)
 case start=>exact ⟨Nat.zero_le _,rfl⟩
 case frame0=>((try dsimp only [ZQ,z0,z1]);repeat (first|exact LeF.nil|refine ZD (k:=?_)))
 case objs0=>rfl
 case round =>
  rintro k ⟨h1,h2⟩
  dsimp only [ZQ,z0,z1]
  ((repeat' (first|(apply ZF;(focus (apply SYG.yes;(exact ZP rfl);(first|(apply SY.move <;> (exact oD))|(apply SY.assign <;> (exact oD))|(apply SY.load;(exact tD);(exact OpD.t rfl)))));dsimp only [ZB,z0,z1])|refine WL.nil ?_|refine ZA fun Kx hK=>?_|(refine hK _ _ ?_;clear hK)|(refine Kont.skip ?_;clear hK)|refine WC.region ?_|(apply ZF;(focus (apply SYG.yes;(exact ZP rfl);((first|((first|apply SY.move|apply SY.assign|apply SY.lss|apply SY.neq) <;> (exact oD))|((first|apply SY.add) <;> first|exact oD|omega)|(apply SY.ix;(exact eD);(exact oD);(exact oD);exact kD)|fail);all_goals infer_instance)));dsimp only [ZB,z0,z1])|(apply WC.condD;(exact oD);(all_goals intro h);(all_goals try (exfalso;first|omega|contradiction)))|(apply WC.condN;(exact oD);(all_goals intro h);(all_goals try (exfalso;first|omega|contradiction)))|refine WC.skip ?_|refine WC.ret ?_|refine WC.exit ?_|refine WC.block ?_|refine ThenD.n ?_|refine ThenD.r ?_|refine InBlockD.r ?_));all_goals (first|((repeat clear hK);(repeat clear Kx))))
  ·(refine ⟨trivial,_,rfl,?_⟩;refine FinD.i ?_)
   rw [h2,ZDV (by omega),if_neg h]
  ·(refine ⟨k+1,?_,by first|omega|(simp only;omega),rfl,?_⟩;rotate_left;((try dsimp only [ZQ,z0,z1]);repeat (first|exact LeF.nil|refine ZD (k:=?_)));(try dsimp only))
   exact ⟨by omega,by rw [h2,ZDV (by omega),if_pos h]⟩
  ·(refine ⟨trivial,_,rfl,?_⟩;refine FinD.i ?_)
   rw [h2,List.drop_of_length_le (by omega)];rfl
theorem ZJt (x y:Vx):Fn Tryz.prog 55 [dS RV x,dS RV y] (dI (ZCL x y)):=by
 (refine ZG Tryz.func55 rfl rfl ?_;simp only [Tryz.ntmps55,List.length_cons,List.length_nil,Nat.reduceAdd,Nat.reduceSub,List.replicate_succ,List.replicate_zero,List.cons_append,List.nil_append])
 ((repeat' (first|((first|apply ZF|apply WD.op);(focus (apply SYG.yes;(exact ZP rfl);(first|(apply SY.assign <;> (exact oD))|(apply SY.load;(exact tD);(exact OpD.t rfl)))));dsimp only [ZB,z0,z1])|refine WL.nil ?_|refine WD.nil ?_|refine ZA fun Kx hK=>?_|(refine hK _ _ ?_;clear hK)|refine WC.region ?_|(apply WC.draw;kernel_rfl;kernel_rfl)|((first|apply ZF|apply WD.op);(focus (apply SYG.yes;(exact ZP rfl);((first|(apply SY.call (ZM2 _ _) Tryz.call85;(exact aD))|(apply SY.call (ZR4 [_,_]) Tryz.call84;(exact aD))|(first|(apply SY.fld0 vxT <;> (exact oD))|(apply SY.fld1 vxT <;> (exact oD)))|(apply SY.build1';(exact eD);((try simp only [List.map_cons,List.map_nil]);(repeat (first|exact Zu|(apply Zt;(first|exact OpD.t rfl|exact OpD.i|exact OpD.b|exact OpD.tle rfl (by first|exact ZE|exact ZC (by decide))|exact ⟨ZE⟩|exact ⟨ZC (by decide)⟩)))));rfl;rfl;(intro _;first|exact ZAU|exact ZAc|exact ZAh|exact shape_B);(exact (by simp)))|(apply SY.box;(exact oD);(exact hD))|fail);all_goals infer_instance)));dsimp only [ZB,z0,z1])|refine WC.ret ?_));all_goals (first|((repeat clear hK);(repeat clear Kx))))
 all_goals ((refine ⟨trivial,_,rfl,?_⟩;refine FinD.i ?_);exact ZM4 _ _)
theorem Ext.grow {w w':World} (h:Ext w w'):∃ q os',w'=Go.Sort.grow (w.drewN q) os':=by
 refine ⟨w'.drawn-w.drawn,w'.heap.extract w.heap.size w'.heap.size,?_⟩
 have hd:=h.d
 have hs:=h.b.size
 have hh:w'.heap=w.heap++w'.heap.extract w.heap.size w'.heap.size:=by
  apply Array.ext
  ·simp;omega
  ·intro i h1 h2
   by_cases hi:i<w.heap.size
   ·have:=h.b.block i hi
    rw [Array.getElem?_eq_getElem h1,Array.getElem?_eq_getElem hi] at this
    rw [Array.getElem_append_left hi]
    exact Option.some.inj this
   ·rw [Array.getElem_append_right (by omega),Array.getElem_extract]
    congr 1
    omega
 unfold Go.Sort.grow World.drewN
 cases w'
 cases w
 simp only at hd hh
 have h1:=h.b.os;have h2:=h.b.tape;have h3:=h.b.output
 simp only at h1 h2 h3
 subst h1;subst h2;subst h3
 simp only [World.mk.injEq,true_and,and_true]
 exact ⟨hh,by omega⟩
end
end Go.Proofs.YtokmalofdapffaaGreat.M
namespace Go.Proofs.YtokmalofdapffaaGreat
section
open Go.RowKit Go.Sort Go.Shelf

section
variable {w:World} {g n cap:Nat} {os:Array Obj} {cur:Array Value} {e:TypeId} {fz:Nat × Nat}
theorem ZIo {F:Array Value} (hb:w.heap[g]?=some (.cells cur e (0,0))) (ht:cur.toList.take F.size=F.toList):Holds id w g 0 F:=by
 intro j hj
 refine ⟨?_,by simp [World.frozen?,hb]⟩
 have h1:(cur.toList.take F.size)[j]?=F.toList[j]?:=by rw [ht]
 rw [List.getElem?_take_of_lt hj] at h1
 simp only [World.cell?,hb,Nat.zero_add]
 simp only [Option.isSome_none,Bool.false_eq_true,if_false]
 rw [<- Array.getElem?_toList,h1,getElem!_pos _ j hj]
 simp [hj]
theorem ZIn (F:Array Value) (hb:w.heap[g]?=some (.cells cur e fz)) :
  (grow (putRow id (Sort.ahead w n) g 0 F) os).heap[g]?=some (.cells (putCells id 0 F cur) e fz):=by
 have hg:g<w.heap.size:=(Array.getElem?_eq_some_iff.1 hb).1
 rw [heap_grow_old _ _ (by simpa using hg)]
 simp [putRow,mapBlock,Sort.ahead,Array.getElem?_modify,hb,onCells]
theorem ZFl (F:Array Value):w.grownBy (grow (putRow id (Sort.ahead w n) g 0 F) os) (some g):=by
 refine ⟨rfl,rfl,rfl,by simp,fun k hk hne=>?_⟩
 rw [heap_grow_old _ _ (by simpa using hk)]
 have:g≠k:=fun e=>hne (by rw [e])
 simp [putRow,mapBlock,Sort.ahead,Array.getElem?_modify,this]
theorem ZGF (cur F:Array Value) (h:F.size≤cur.size):(putCells id 0 F cur).toList.take F.size=F.toList:=by
 apply List.ext_getElem?
 intro j
 by_cases hj:j<F.size
 ·rw [List.getElem?_take_of_lt hj,Array.getElem?_toList]
  simp [putCells,hj,show j<cur.size by omega]
 ·rw [List.getElem?_take_eq_none (by omega),List.getElem?_eq_none (by simp;omega)]
end
end
end Go.Proofs.YtokmalofdapffaaGreat
namespace Go.Proofs
section
open Go.Shelf
def Tryz.growV_ren:Go.Shelf.Ren:=⟨fun|4=>134|n=>n,fun|22=>41|25=>47|3=>3|4=>4|9=>9|20=>20|0=>0|2=>3|n=>n,fun|n=>n⟩
theorem Tryz.growV:Go.Proofs.Lays8.n4 Tryz.prog Tryz.growV_ren:={
 mixed:=by kernel_rfl
 f4:=⟨Tryz.f134.name,by decide,Tryz.func134.trans (congrArg some (by kernel_rfl))⟩
 t0:=Tryz.underlying0
 a0:=Tryz.isAgg0
 z0:=Tryz.sizeOf0
 v0:=Tryz.zeroValue0
 t3:=Tryz.underlying3
 a3:=Tryz.isAgg3
 z3:=Tryz.sizeOf3
 v3:=Tryz.zeroValue3
 t4:=Tryz.underlying4
 a4:=Tryz.isAgg4
 z4:=Tryz.sizeOf4
 v4:=Tryz.zeroValue4
 t9:=Tryz.underlying9
 a9:=Tryz.isAgg9
 z9:=Tryz.sizeOf9
 v9:=Tryz.zeroValue9
 t20:=Tryz.underlying20
 a20:=Tryz.isAgg20
 z20:=Tryz.sizeOf20
 v20:=Tryz.zeroValue20
 t22:=Tryz.underlying41
 a22:=Tryz.isAgg41
 z22:=Tryz.sizeOf41
 v22:=Tryz.zeroValue41 }
end
end Go.Proofs
namespace Go.Proofs.YtokmalofdapffaaGreat
section
open Go.RowKit

section
variable {ops:Array Oper} {hp:List HObj} {fr:List Dat} {Q:ZAE} {rest:List Oper} {dst:Option Tmp} {ty:TypeId} {ps:String} {af:Array Edge}
theorem ZPA {x:Operand} {n:Nat} {ats:Array TypeId} (hx:OpD fr x (dI (n:Int))) (h0:0<n) (hn:n≤1000)
  (h:∀ v:Value,WL Tryz.prog ops Q rest (ZB fr dst (dX v)) (Zg v 47 2 RV ([]:List Vx)::hp)) :
  WL Tryz.prog ops Q (⟨dst,.call { callee:=.value (.func 134),args:=#[.const (.slice none 0 0),x],argTypes:=ats },ty,ps,af,none⟩::rest) fr hp:=by
 refine WL.of fun P0 B w0 w a hh hf=>?_
 obtain ⟨i,hi',hz,hs,hb⟩:=info_parts elV.info
 have hcon:=Any8.slices_Grow_grow Tryz.growV i _ hi' hz (by omega) none 0 0 n [] w (Nat.le_refl _) (by omega) (by rw [hb];omega) (by omega) (by simp) (fun _=>rfl) (by simp)
 change Calls Tryz.prog 134 _ _ _ at hcon
 have hev:a.eval x = .int .i64 (n:Int):=hx.ev hf
 have hrun:(execOp a.eval ⟨dst,.call { callee:=.value (.func 134),args:=#[.const (.slice none 0 0),x],argTypes:=ats },ty,ps,af,none⟩).run Tryz.prog w = .ok (.enter 134 #[.slice none 0 0,.int .i64 n]) w:=by
  unfold execOp
  simp only [resolve]
  have he:(#[Operand.const (.slice none 0 0),x]:Array Operand).map a.eval=#[.slice none 0 0,.int .i64 n]:=by simp [hev];rfl
  rw [he]
  simp [Act.eval,Deferred.ofValue,invoke,Tryz.call134]
 refine wpList_plain rfl fun K hK=>?_
 unfold Oper.wp
 rw [hrun]
 refine hcon.mono fun e' w' ⟨he,hw'⟩=>?_
 subst he
 subst hw'
 have hge:=grownCap_ge w (0+n) 0 47
 have hle:=grownCap_le_maxLen w (0+n) 0 47 (by unfold maxLen;omega)
 have hG:grownCap w (0+n) 0 (Tryz.growV_ren.t 25)=grownCap w (0+n) 0 47:=rfl
 rw [hG]
 generalize grownCap w (0+n) 0 47=G at hge hle
 have hx2:Ext w (w.drew.alloc (.cells (([]:List Value).toArray++Builtin.zeroCells (Value.agg #[.int .i64 0,.int .i64 0]).cells (0+n-0)++Builtin.zeroCells (Value.agg #[.int .i64 0,.int .i64 0]).cells (G-(0+n))) (Tryz.growV_ren.t 25))):=(Ext.refl w).drew.alloc _
 have hb2:∀ k,(Zg (.slice (some ⟨w.heap.size,0,none⟩) 0 G) 47 2 RV ([]:List Vx)).blk=some k->w.heap.size≤k/\k<(w.drew.alloc (.cells (([]:List Value).toArray++Builtin.zeroCells (Value.agg #[.int .i64 0,.int .i64 0]).cells (0+n-0)++Builtin.zeroCells (Value.agg #[.int .i64 0,.int .i64 0]).cells (G-(0+n))) (Tryz.growV_ren.t 25))).heap.size:=fun k hk=>by
  cases hk
  exact ⟨Nat.le_refl _,by rw [World.size_alloc];exact Nat.lt_succ_self _⟩
 refine hK _ _ ((h (.slice (some ⟨w.heap.size,0,none⟩) 0 G)).on (hh.push hx2 hb2 ?_) (Fr.put (hf.mono fun d _ hd=>Z8 hx2 (fun k hk=>(hb2 k hk).1) hd) rfl))
 refine ZC8.2 ⟨rfl,(([]:List Value).toArray++Builtin.zeroCells (Value.agg #[.int .i64 0,.int .i64 0]).cells (0+n-0)++Builtin.zeroCells (Value.agg #[.int .i64 0,.int .i64 0]).cells (G-(0+n))).toList,?_,by simp,by omega,?_⟩
 ·have:=Zx w.drew (.cells (([]:List Value).toArray++Builtin.zeroCells (Value.agg #[.int .i64 0,.int .i64 0]).cells (0+n-0)++Builtin.zeroCells (Value.agg #[.int .i64 0,.int .i64 0]).cells (G-(0+n))) (Tryz.growV_ren.t 25))
  rw [ZB6,List.nil_append,Array.toArray_toList]
  exact this
 ·rw [ZB6,List.nil_append]
  simp [Builtin.zeroCells,Value.cells]
  omega
end
set_option maxHeartbeats 4000000 in
theorem ZPc (ss:List (List Vx)) (h0:0<ss.flatten.length) (hl:ss.flatten.length≤1000):Fn Tryz.prog 118 [dS ZBN ss] (dS ZJ ss.flatten):=by
 have hstep:∀ (k:Nat) (hk:k<ss.length),(ss.take (k+1)).flatten=(ss.take k).flatten++ss[k]:=fun k hk=>by rw [ZU hk,List.flatten_append];simp
 have hle:∀ k:Nat,(ss.take k).flatten.length≤ss.flatten.length:=fun k=>by
  conv=>rhs;rw [<- List.take_append_drop k ss]
  rw [List.flatten_append,List.length_append];omega
 (refine ZG Tryz.func118 rfl rfl ?_;simp only [Tryz.ntmps118,List.length_cons,List.length_nil,Nat.reduceAdd,Nat.reduceSub,List.replicate_succ,List.replicate_zero,List.cons_append,List.nil_append])
 (repeat' (first|(apply WL.opN;exact yF;dsimp only [ZB,z0,z1])|refine WL.nil ?_|refine ZA fun Kx hK=>?_|(refine hK _ _ ?_;clear hK)|refine WC.region ?_|(apply WL.opN;(focus ((first|exact ZBw|fail);all_goals infer_instance));dsimp only [ZB,z0,z1])|refine WC.block ?_))
 (first|refine ZV (t:=0) rfl ZGA fun hl0=>?_|refine ZV (t:=0) rfl ZF5 fun hl0=>?_);simp only [maxLen] at hl0
 (refine ZH (X:=Nat) (fun k=>[(3,dI ((ss.take k).flatten.length:Int)),(11,dI (k:Int)),(5,dA),(12,dA),(13,dA),(14,dA),(15,dA),(16,dA),(17,dA),(18,dA),(19,dA),(20,dA),(21,dA),(22,dA)]) (fun k=>[]) (fun k=>ss.length-k) (fun k=>k≤ss.length) 0 ?start ?frame0 ?objs0 ?round)
 case start=>simp
 case frame0=>((try dsimp only [ZQ,z0,z1]);repeat (first|exact LeF.nil|refine ZD (k:=?_)))
 case objs0=>rfl
 case round =>
  rintro k h1
  dsimp only [ZQ,z0,z1]
  have hk1:=hle k
  ((repeat' (first|(apply WL.opN;exact yF;dsimp only [ZB,z0,z1])|refine WL.nil ?_|refine ZA fun Kx hK=>?_|(refine hK _ _ ?_;clear hK)|(refine Kont.skip ?_;clear hK)|refine WC.region ?_ |  (apply ZPA;exact OpD.t rfl;(rw [List.take_of_length_le (by omega)];omega);omega;intro vg;dsimp only [ZB,z0,z1])|(apply WL.opN;(focus ((first|(apply SY.add;exact OpD.t rfl;exact OpD.t rfl;(have:=hstep k (by omega);have h7:=hle (k+1);rw [this,List.length_append] at h7;omega))|exact ZCB|exact ZCu|exact ZBw|exact ZS|fail);all_goals infer_instance));dsimp only [ZB,z0,z1])|(apply WC.condD;(exact oD);all_goals (intro h;try exact xD))|refine WC.skip ?_|refine WC.exit ?_|refine WC.block ?_|refine ThenD.n ?_));all_goals (first|refine WC.id ?_|((repeat clear hK);(repeat clear Kx))))
  ·have h5:=hstep k (by omega)
   have h6:((ss.take (k+1)).flatten.length:Int)=(ss.take k).flatten.length+(ss[k]'(by omega)).length:=by rw [h5,List.length_append];rfl
   rw [<- h6]
   (refine ⟨k+1,?_,by first|omega|(simp only;omega),rfl,?_⟩;rotate_left;((try dsimp only [ZQ,z0,z1]);repeat (first|exact LeF.nil|refine ZD (k:=?_)));(try dsimp only))
   omega
  ·(refine ZH (X:=Nat × Value) (fun x=>[(6,dX x.2),(27,dI (x.1:Int)),(8,dA),(28,dA),(29,dA),(30,dA),(31,dA),(32,dA),(33,dA),(34,dA)]) (fun x=>[Zg x.2 47 2 RV ((ss.take x.1).flatten)]) (fun x=>ss.length-x.1) (fun x=>x.1≤ss.length) (0,vg) ?start ?frame0 ?objs0 ?round)
   case start=>simp
   case frame0=>((try dsimp only [ZQ,z0,z1]);repeat (first|exact LeF.nil|refine ZD (k:=?_)))
   case objs0=>rfl
   case round =>
    rintro ⟨j,u⟩ q1
    dsimp only [ZQ,z0,z1]
    simp only at q1
    have q2:=hle j
    have q3:∀ (hj:j<ss.length),(ss.take j).flatten.length+ss[j].length≤1000:=fun hj=>by
     have h7:=hle (j+1)
     rw [hstep j hj,List.length_append] at h7
     omega
    ((repeat' (first|(apply WL.opN;exact yF;dsimp only [ZB,z0,z1])|refine WL.nil ?_|refine ZA fun Kx hK=>?_|(refine hK _ _ ?_;clear hK)|(refine Kont.skip ?_;clear hK)|refine WC.region ?_ |  (apply WL.appK;exact elV;exact OpD.t rfl;exact OpD.t rfl;decide;(have:=q3 (by omega);omega);(intro _;dsimp only [ZB,z0,z1]);all_goals (try infer_instance))|(apply WL.opN;(focus ((first|exact ZCB|exact ZCu|exact ZS|fail);all_goals infer_instance));dsimp only [ZB,z0,z1])|(apply WC.condD;(exact oD);all_goals (intro h;try exact xD))|refine WC.skip ?_|refine WC.ret ?_|refine WC.exit ?_|refine WC.block ?_|refine ThenD.n ?_));all_goals (first|((repeat clear hK);(repeat clear Kx))))
    ·(refine ⟨(j+1,_) , ?_,by first|omega|(simp only;omega),by ((try simp only);  (rw [hstep j (by omega)])),?_⟩;rotate_left;((try dsimp only [ZQ,z0,z1]);repeat (first|exact LeF.nil|refine ZD (k:=?_)));(try dsimp only))
     omega
    ·(refine ⟨trivial,_,rfl,?_⟩;refine ZDL (.head _) ?_)
     rw [List.take_of_length_le (by omega)]
end
section
theorem ZEW (x y:Vx) : -1≤ZCL x y/\ZCL x y≤1:=by rcases ZCW x y with h|h|h <;> omega
theorem ZCg:∀ (a b:List Vx),ZAB b a = - ZAB a b
 | [],[]=>by simp [ZAB]
 | [],_::_=>by simp [ZAB]
 | _::_,[]=>by simp [ZAB]
 | x::a,y::b=>by
  unfold ZAB
  have h:=ZKP x y
  split <;> split
  ·exact ZCg a b
  ·omega
  ·omega
  ·exact h
theorem ZDP:∀ (a b c:List Vx),ZAB a b≤0->ZAB b c≤0->ZAB a c≤0/\(ZAB a c=0->0≤ZAB a b+ZAB b c)
 | [],[],[],_,_=>by simp [ZAB]
 | [],[],_::_,_,_=>by simp [ZAB]
 | [],_::_,[],_,h=>by simp [ZAB] at h
 | [],_::_,_::_,_,_=>by simp [ZAB]
 | _::_,[],_,h,_=>by simp [ZAB] at h
 | _::_,_::_,[],_,h=>by simp [ZAB] at h
 | x::a,y::b,z::c,h,h'=>by
  have ih:=ZDP a b c
  unfold ZAB at h h' ⊢
  have r1:=ZEW x y
  have r2:=ZEW y z
  by_cases e1:ZCL x y=0
  ·have:=ZB5.1 e1
   subst this
   rw [if_pos e1] at h ⊢
   by_cases e2:ZCL x z=0
   ·simp only [e2,if_true] at h' ⊢
    exact ih h h'
   ·rw [if_neg e2] at h'
    rw [if_neg e2]
    exact ⟨h',fun h0=>absurd h0 e2⟩
  ·rw [if_neg e1] at h ⊢
   by_cases e2:ZCL y z=0
   ·have:=ZB5.1 e2
    subst this
    rw [if_neg e1]
    omega
   ·rw [if_neg e2] at h' ⊢
    have e3:=ZDQ (by omega:ZCL x y<0) (by omega:ZCL y z<0)
    rw [if_neg (by omega)]
    omega
end
section
abbrev Cx:=List (List Vx)
def ZCk (l:Cx):Bool:=decide (l.length≤30) && l.all fun s=>decide (s.length≤10)
def ZOl:Cx->List Vx->Cx
 | [],s=>[s]
 | x::l,s=>if ZAB s x<0 then s::x::l else x::ZOl l s
def ZHz (l:Cx) (s:List Vx):Cx:=if s∈l then l else ZOl l s
def ZAM (l:Cx) (s:List Vx):Bool:=l.any fun x=>decide (s.length<x.length) && Zb s x
def ZQj (l:Cx) (s:List Vx):Bool:=decide (0<s.length) && !ZAM l s
def ZKs (l:Cx):Cx:=(l.filter (ZQj l)).foldl ZHz []
def ZEp:Option (List Vx)->Cx->Int
 | _,[]=>0
 | p,s::l=>if ZAL s≠0 then ZAL s else if (match p with|some u=>decide (0≤ZAB u s)|none=>false)=true then 14 else ZEp (some s) l
def ZCt (l:Cx):Bool:=(List.range l.length).any fun i=>(List.range l.length).any fun k=>decide (i≠k) && Zb (l.getD i []) (l.getD k [])
def ZA8 (l:Cx):Int:=if 4096<l.length then 5 else if ZEp none l≠0 then ZEp none l else if ZCt l=true then 7 else 0
def ZFm (c:Cx) (s:List Vx):Bool:=c.any fun f=>Zb s f
def Zs (c:Cx) (k:Nat):Cx:=c.foldl (fun out f=>if f.length<k then out else (ZX k f).foldl ZHz out) []
theorem ZKj:∀ (l:Cx) (s:List Vx),(ZOl l s).length=l.length+1
 | [],s=>rfl
 | x::l,s=>by
  unfold ZOl
  split
  ·rfl
  ·simp [ZKj l s]
theorem ZQP (l:Cx) (s:List Vx):l.length≤(ZHz l s).length/\(ZHz l s).length≤l.length+1:=by
 unfold ZHz
 split
 ·omega
 ·rw [ZKj];omega
theorem ZFj:∀ (l out:Cx),out.length≤(l.foldl ZHz out).length/\(l.foldl ZHz out).length≤out.length+l.length
 | [],out=>by simp
 | s::l,out=>by
  have h1:=ZFj l (ZHz out s)
  have h2:=ZQP out s
  simp only [List.foldl_cons,List.length_cons]
  omega
theorem ZIY (l:Cx) (k:Nat) (h:k<l.length):ZEp (l.take k).getLast? (l.drop k)=if ZAL l[k]≠0 then ZAL l[k] else if (match (l.take k).getLast? with|some u=>decide (0≤ZAB u l[k])|none=>false)=true then 14 else ZEp (l.take (k+1)).getLast? (l.drop (k+1)):=by
 rw [ZA6 h]
 conv=>lhs;unfold ZEp
 have e:(l.take (k+1)).getLast?=some l[k]:=by rw [ZU h,List.getLast?_append];rfl
 rw [e]
theorem ZDS (l:Cx) (k:Nat) (h:k<l.length) (h0:0<k):(l.take k).getLast?=some l[k-1]:=by
 rw [List.getLast?_eq_getElem?,List.length_take,Nat.min_eq_left (by omega),List.getElem?_take_of_lt (by omega),List.getElem?_eq_getElem (by omega)]
end
section
open Go.RowKit


theorem ZPt (l:Cx):Fn Tryz.prog 27 [dS ZBN l] (dB (ZCk l)):=by
 (refine ZG Tryz.func27 rfl rfl ?_;simp only [Tryz.ntmps27,List.length_cons,List.length_nil,Nat.reduceAdd,Nat.reduceSub,List.replicate_succ,List.replicate_zero,List.cons_append,List.nil_append])
 ((repeat' (first|(apply WL.opN;exact yF;dsimp only [ZB,z0,z1])|refine WL.nil ?_|refine ZA fun Kx hK=>?_|(refine hK _ _ ?_;clear hK)|refine WC.region ?_|(apply WL.opN;(focus ((first|exact ZHv|exact ZBw|fail);all_goals infer_instance));dsimp only [ZB,z0,z1])|(apply WC.condD;(exact oD);all_goals (intro h;try exact xD))|refine WC.skip ?_|refine WC.ret ?_|refine WC.block ?_|refine ThenD.r ?_));all_goals (first|refine WC.id ?_|((repeat clear hK);(repeat clear Kx))))
 ·(refine ⟨trivial,_,rfl,?_⟩;refine FinD.b ?_)
  unfold ZCk
  rw [decide_eq_false (by omega)];rfl
 ·have h0:l.length≤30:=by omega
  (refine ZH (X:=Nat) (fun k=>[(3,dI (k:Int)),(2,dA),(7,dA),(8,dA),(9,dA),(10,dA),(11,dA),(12,dA),(13,dA),(14,dA),(15,dA),(16,dA),(17,dA),(18,dA)]) (fun k=>[]) (fun k=>l.length-k) (fun k=>k≤l.length/\∀ s∈l.take k,s.length≤10) 0 ?start ?frame0 ?objs0 ?round)
  case start=>simp
  case frame0=>((try dsimp only [ZQ,z0,z1]);repeat (first|exact LeF.nil|refine ZD (k:=?_)))
  case objs0=>rfl
  case round =>
   rintro k ⟨h1,h2⟩
   dsimp only [ZQ,z0,z1]
   ((repeat' (first|(apply WL.opN;exact yF;dsimp only [ZB,z0,z1])|refine WL.nil ?_|refine ZA fun Kx hK=>?_|(refine hK _ _ ?_;clear hK)|(refine Kont.skip ?_;clear hK)|refine WC.region ?_|(apply WL.opN;(focus ((first|(apply SY.call (few_c _) Tryz.call56;(exact aD))|exact ZCB|exact ZOr|exact ZCu|exact ZBw|exact ZS|fail);all_goals infer_instance));dsimp only [ZB,z0,z1])|(apply WC.condD;(exact oD);all_goals (intro h;try exact xD))|(apply WC.condN;(exact oD);all_goals (intro h;try exact xD))|refine WC.skip ?_|refine WC.ret ?_|refine WC.exit ?_|refine WC.block ?_|refine ThenD.n ?_|refine ThenD.r ?_|refine InBlockD.r ?_));all_goals (first|((repeat clear hK);(repeat clear Kx))))
   ·(refine ⟨trivial,_,rfl,?_⟩;refine FinD.b ?_)
    unfold ZCk
    symm
    rw [Bool.and_eq_false_iff]
    right
    rw [List.all_eq_false]
    exact ⟨_,List.getElem_mem (show k<l.length by omega),by rw [decide_eq_false (by omega)];exact Bool.false_ne_true⟩
   ·(refine ⟨k+1,?_,by first|omega|(simp only;omega),rfl,?_⟩;rotate_left;((try dsimp only [ZQ,z0,z1]);repeat (first|exact LeF.nil|refine ZD (k:=?_)));(try dsimp only))
    refine ⟨by omega,fun s hs=>?_⟩
    rcases (ZBt (by omega)).1 hs with h'|rfl
    ·exact h2 s h'
    ·omega
   ·rw [List.take_of_length_le (by omega)] at h2
    (refine ⟨trivial,_,rfl,?_⟩;refine FinD.b ?_)
    unfold ZCk
    symm
    rw [Bool.and_eq_true,List.all_eq_true]
    exact ⟨decide_eq_true h0,fun s hs=>decide_eq_true (h2 s hs)⟩
theorem ZSm (l:Cx):Fn Tryz.prog 14 [dS Cpx l] (dB (ZCk l)):=by
 (refine ZG Tryz.func14 rfl rfl ?_;simp only [Tryz.ntmps14,List.length_cons,List.length_nil,Nat.reduceAdd,Nat.reduceSub,List.replicate_succ,List.replicate_zero,List.cons_append,List.nil_append])
 ((repeat' (first|(apply WL.opN;exact yF;dsimp only [ZB,z0,z1])|refine WL.nil ?_|refine ZA fun Kx hK=>?_|(refine hK _ _ ?_;clear hK)|refine WC.region ?_|(apply WL.opN;(focus ((first|(apply SY.call (ZPt _) Tryz.call27;(exact aD))|exact Z4|exact ZF3|fail);all_goals infer_instance));dsimp only [ZB,z0,z1])|refine WC.ret ?_));all_goals (first|((repeat clear hK);(repeat clear Kx))))
 (refine ⟨trivial,_,rfl,?_⟩;exact fD)
end
section
open Go.RowKit

theorem ZIj {p:List Vx->Bool} {l:Cx} {k:Nat} (h:k<l.length):(l.take (k+1)).filter p=(l.take k).filter p++(if p l[k]=true then [l[k]] else []):=by
 rw [ZU h,List.filter_append]
 by_cases hp:p l[k]=true
 ·rw [if_pos hp,List.filter_cons_of_pos hp];rfl
 ·rw [if_neg hp,List.filter_cons_of_neg hp];rfl
end
section
open Go.RowKit

def ZCj:List Vx->List Vx->Bool
 | [],_=>true
 | v::a,b=>if (b.dropWhile fun x=>decide (x≠v))=[] then false else ZCj a (b.dropWhile fun x=>decide (x≠v))
theorem ZLe {v x:Vx} {a c:List Vx} (h:x≠v):ZCj (v::a) (x::c)=ZCj (v::a) c:=by
 unfold ZCj
 rw [List.dropWhile_cons_of_pos (by simpa using h)]
theorem ZNR {v:Vx} {a c:List Vx}:ZCj (v::a) (v::c)=ZCj a (v::c):=by
 conv=>lhs;unfold ZCj
 rw [List.dropWhile_cons_of_neg (by simp)]
 simp
theorem ZNQ {v:Vx} {a:List Vx}:ZCj (v::a) []=false:=by unfold ZCj;simp
theorem ZPq (a b:List Vx):Fn Tryz.prog 66 [dS ZJ a,dS ZJ b] (dB (ZCj a b)):=by
 (refine ZG Tryz.func66 rfl rfl ?_;simp only [Tryz.ntmps66,List.length_cons,List.length_nil,Nat.reduceAdd,Nat.reduceSub,List.replicate_succ,List.replicate_zero,List.cons_append,List.nil_append])
 (repeat' (first|((first|apply WL.opN|apply WD.opN);exact yF;dsimp only [ZB,z0,z1])|refine WL.nil ?_|refine ZA fun Kx hK=>?_|(refine hK _ _ ?_;clear hK)|refine WC.region ?_|((first|apply ZF|apply WD.op);(focus (first|exact wN|(apply SYG.yes;(exact wY);((first|exact ZBw|fail);all_goals infer_instance))));dsimp only [ZB,z0,z1])|refine WC.block ?_))
 (first|refine ZV (t:=0) rfl ZGA fun hl0=>?_|refine ZV (t:=0) rfl ZF5 fun hl0=>?_|refine ZV (t:=0) rfl ZRq fun hl0=>?_);simp only [maxLen] at hl0
 (refine ZH (X:=Nat × List Vx) (fun x=>[(9,dI (x.1:Int)),(1,dS ZJ x.2),(4,dA),(6,dA),(10,dA),(11,dA),(12,dA),(13,dA),(14,dA),(15,dA),(16,dA),(17,dA),(18,dA),(19,dA),(20,dA),(21,dA),(22,dA),(23,dA),(24,dA),(25,dA),(26,dA),(27,dA),(28,dA)]) (fun x=>[]) (fun x=>a.length-x.1) (fun x=>x.1≤a.length/\ZCj a b=ZCj (a.drop x.1) x.2) (0,b) ?start ?frame0 ?objs0 ?round)
 case start=>exact ⟨Nat.zero_le _,rfl⟩
 case frame0=>((try dsimp only [ZQ,z0,z1]);repeat (first|exact LeF.nil|refine ZD (k:=?_)))
 case objs0=>rfl
 case round =>
  rintro ⟨k,c⟩ ⟨h1,h2⟩
  simp only at h1 h2
  dsimp only [ZQ,z0,z1]
  ((repeat' (first|((first|apply WL.opN|apply WD.opN);exact yF;dsimp only [ZB,z0,z1])|refine WL.nil ?_|refine ZA fun Kx hK=>?_|(refine hK _ _ ?_;clear hK)|(refine Kont.skip ?_;clear hK)|refine WC.region ?_|(apply WL.alloc;(first|exact tzV|exact tzC);(first|exact ZZ rfl|exact Zw|exact Ze rfl);(intro _;dsimp only [ZB,z0,z1]))|(apply ZI;(exact tD);rfl;(exact oD);(exact hD);dsimp only [ZB,z0,z1])|((first|apply ZF|apply WD.op);(focus (first|exact wN|(apply SYG.yes;(exact wY);((first|exact ZCB|exact ZS|fail);all_goals infer_instance))));dsimp only [ZB,z0,z1])|(apply WC.condD;(exact oD);all_goals (intro h;try exact xD))|refine WC.skip ?_|refine WC.ret ?_|refine WC.exit ?_|refine WC.block ?_));all_goals (first|refine WC.id ?_|((repeat clear hK);(repeat clear Kx))))
  ·(refine ZH (X:=List Vx) (fun c'=>[(1,dS ZJ c'),(13,dA),(14,dA),(15,dA),(16,dA),(17,dA),(18,dA),(19,dA),(20,dA),(21,dA),(22,dA),(23,dA),(24,dA)]) (fun c'=>[]) (fun c'=>c'.length) (fun c'=>c'.length≤c.length/\ZCj a b=ZCj (a.drop k) c') c ?start ?frame0 ?objs0 ?round)
   case start=>exact ⟨Nat.le_refl _,h2⟩
   case frame0=>((try dsimp only [ZQ,z0,z1]);repeat (first|exact LeF.nil|refine ZD (k:=?_)))
   case objs0=>rfl
   case round =>
    rintro c' ⟨h3,h4⟩
    dsimp only [ZQ,z0,z1]
    ((repeat' (first|((first|apply WL.opN|apply WD.opN);exact yF;dsimp only [ZB,z0,z1])|refine WL.nil ?_|refine WD.nil ?_|refine ZA fun Kx hK=>?_|(refine hK _ _ ?_;clear hK)|(refine Kont.skip ?_;clear hK)|refine WC.region ?_|(apply WC.draw;kernel_rfl;kernel_rfl)|((first|apply ZF|apply WD.op);(focus (first|exact wN|(apply SYG.yes;(exact wY);((first|(apply ZEM elV (OpD.t rfl) OpD.i 0 rfl;omega)|(apply ZGu elV (OpD.t rfl) OpD.i 1 rfl;omega)|exact ZDe|exact ZHv|exact ZQp|exact ZE0|exact ZCu|exact ZEn|exact ZBw|exact ZEK|fail);all_goals infer_instance))));dsimp only [ZB,z0,z1])|((first|refine ZM rfl rfl rfl (fun h=>?_) (fun h=>?_)|refine ZL rfl rfl rfl (fun h=>?_) (fun h=>?_)|refine ZK rfl rfl rfl (fun h=>?_) (fun h=>?_)|refine Zp rfl rfl rfl (fun h=>?_) (fun h=>?_)|refine Zo rfl rfl rfl (fun h=>?_) (fun h=>?_)|refine Zl rfl rfl rfl (fun h=>?_) (fun h=>?_)) <;> (first|(exfalso;first|omega|contradiction)|(dsimp only [z0,z1])))|(apply Za;(exact oD);(with_reducible rfl))|(apply WC.condD;(exact oD);all_goals (intro h;try exact xD))|(apply WC.condN;(exact oD);all_goals (intro h;try exact xD))|refine WC.skip ?_|refine WC.ret ?_|refine WC.exit ?_|refine WC.block ?_|refine ThenD.n ?_|refine ThenD.r ?_|refine InBlockD.n ?_|refine InBlockD.r ?_));all_goals (first|((repeat clear hK);(repeat clear Kx))))
    all_goals rw [List.drop_eq_getElem_cons (show k<a.length by omega)] at h4
    ·have hc:c'=c'[0]::c'.drop 1:=by
      have:=List.drop_eq_getElem_cons (show 0<c'.length by omega)
      rwa [List.drop_zero] at this
     have hd:(c'.drop 1).length=c'.length-1:=List.length_drop
     (refine ⟨c'.drop 1,?_,by first|omega|(simp only;omega),rfl,?_⟩;rotate_left;((try dsimp only [ZQ,z0,z1]);repeat (first|exact LeF.nil|refine ZD (k:=?_)));(try dsimp only))
     refine ⟨by omega,?_⟩
     rw [List.drop_eq_getElem_cons (show k<a.length by omega),h4]
     conv=>lhs;rw [hc]
     exact ZLe h
    ·have hc:c'=a[k]::c'.drop 1:=by
      have:=List.drop_eq_getElem_cons (show 0<c'.length by omega)
      rw [List.drop_zero] at this
      rw [this];congr 1
     (refine ⟨(k+1,c'),?_,by first|omega|(simp only;omega),rfl,?_⟩;rotate_left;((try dsimp only [ZQ,z0,z1]);repeat (first|exact LeF.nil|refine ZD (k:=?_)));(try dsimp only))
     refine ⟨by omega,?_⟩
     show _=ZCj (a.drop (k+1)) c'
     rw [h4]
     conv=>lhs;rw [hc,ZNR]
     rw [<- hc]
    ·have hc:c'=[]:=List.eq_nil_of_length_eq_zero (by omega)
     (refine ⟨trivial,_,rfl,?_⟩;refine FinD.b ?_)
     rw [h4,hc,ZNQ]
  ·rw [List.drop_of_length_le (by omega)] at h2
   (refine ⟨trivial,_,rfl,?_⟩;refine FinD.b ?_)
   rw [h2];rfl
end
section
open Go.RowKit

abbrev MemS (l:Cx):={v:List Vx // v∈l}
abbrev ZQz (at':List Int) (p:Int->Bool):Dat:=ZKS Tryz.prog (fun i:{i:Int // i∈at'}=>[dI i.1]) (fun i=>dB (p i.1))
theorem ZSs (l:List Int) (p:Int->Bool):Fn Tryz.prog 91 [dS ZBk l,ZQz l p] (dI (ZJj p 0 l)):=by
 (refine ZG Tryz.func91 rfl rfl ?_;simp only [Tryz.ntmps91,List.length_cons,List.length_nil,Nat.reduceAdd,Nat.reduceSub,List.replicate_succ,List.replicate_zero,List.cons_append,List.nil_append])
 (repeat' (first|(apply WL.opN;exact yF;dsimp only [ZB,z0,z1])|refine WL.nil ?_|refine ZA fun Kx hK=>?_|(refine hK _ _ ?_;clear hK)|refine WC.region ?_|(apply WL.opN;(focus ((first|exact ZBw|fail);all_goals infer_instance));dsimp only [ZB,z0,z1])|refine WC.block ?_))
 (first|refine ZV (t:=0) rfl ZGA fun hl0=>?_|refine ZV (t:=0) rfl ZF5 fun hl0=>?_|refine ZV (t:=0) rfl ZRq fun hl0=>?_);simp only [maxLen] at hl0
 (refine ZH (X:=Nat) (fun k=>[(8,dI (k:Int)),(4,dA),(5,dA),(9,dA),(10,dA),(11,dA),(12,dA),(13,dA),(14,dA),(15,dA),(16,dA),(17,dA),(18,dA)]) (fun k=>[]) (fun k=>l.length-k) (fun k=>k≤l.length/\ZJj p 0 l=ZJj p k (l.drop k)) 0 ?start ?frame0 ?objs0 ?round)
 case start=>exact ⟨Nat.zero_le _,rfl⟩
 case frame0=>((try dsimp only [ZQ,z0,z1]);repeat (first|exact LeF.nil|refine ZD (k:=?_)))
 case objs0=>rfl
 case round =>
  rintro k ⟨h1,h2⟩
  dsimp only [ZQ,z0,z1]
  ((repeat' (first|(apply WL.opN;exact yF;dsimp only [ZB,z0,z1])|refine WL.nil ?_|refine ZA fun Kx hK=>?_|(refine hK _ _ ?_;clear hK)|(refine Kont.skip ?_;clear hK)|refine WC.region ?_|(apply WL.opN;(focus ((first|(apply ZAu (x:=(⟨l[k],List.getElem_mem _⟩:{i:Int // i∈l}));(exact OpD.t rfl);(exact aD))|exact ZCB|exact ZCu|exact ZS|fail);all_goals infer_instance));dsimp only [ZB,z0,z1])|(apply WC.condD;(exact oD);all_goals (intro h;try exact xD))|(apply WC.cond;(exact oD);all_goals (intro h;try exact xD))|refine WC.skip ?_|refine WC.ret ?_|refine WC.exit ?_|refine WC.block ?_|refine ThenD.n ?_|refine ThenD.r ?_|refine InBlockD.r ?_));all_goals (first|((repeat clear hK);(repeat clear Kx))))
  ·(refine ⟨trivial,_,rfl,?_⟩;refine FinD.i ?_)
   rw [h2,ZCY (by omega),if_pos h]
  ·(refine ⟨k+1,?_,by first|omega|(simp only;omega),rfl,?_⟩;rotate_left;((try dsimp only [ZQ,z0,z1]);repeat (first|exact LeF.nil|refine ZD (k:=?_)));(try dsimp only))
   exact ⟨by omega,by rw [h2,ZCY (by omega),if_neg (by simp [h])]⟩
  ·(refine ⟨trivial,_,rfl,?_⟩;refine FinD.i ?_)
   rw [h2,List.drop_of_length_le (by omega)];rfl
theorem ZSc (l:List Int) (p:Int->Bool):Fn Tryz.prog 64 [dS ZBk l,ZQz l p] (dB (l.any p)):=by
 (refine ZG Tryz.func64 rfl rfl ?_;simp only [Tryz.ntmps64,List.length_cons,List.length_nil,Nat.reduceAdd,Nat.reduceSub,List.replicate_succ,List.replicate_zero,List.cons_append,List.nil_append])
 ((repeat' (first|(apply WL.opN;exact yF;dsimp only [ZB,z0,z1])|refine WL.nil ?_|refine ZA fun Kx hK=>?_|(refine hK _ _ ?_;clear hK)|refine WC.region ?_|(apply WL.opN;(focus ((first|(apply SY.call (ZSs _ _) Tryz.call91;(exact aD))|exact ZQq|fail);all_goals infer_instance));dsimp only [ZB,z0,z1])|refine WC.ret ?_));all_goals (first|((repeat clear hK);(repeat clear Kx))))
 all_goals ((refine ⟨trivial,_,rfl,?_⟩;refine FinD.b ?_);exact ZFD _ _)
end
end Go.Proofs.YtokmalofdapffaaGreat
