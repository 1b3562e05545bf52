/- Part 9 of the proof. -/
import Derived.Shelf.SlSortCmp.NoneTotal
import Derived.Shelf.Spec.SlicesGrow
import Derived.Test.YtofkoleingbbpaaGreatDoorZa8
set_option linter.all false
set_option maxRecDepth 100000
set_option maxHeartbeats 64000000
namespace Go.Proofs.YtofkoleingbbpaaGreatDoor
section
open Go.RowKit Go.Sort Go.Shelf

theorem swoV:SWO (ltOf ZAW) where
 irrefl x:=by simp[ltOf,ZBy.2 (rfl:x=x)]
 trans x y z h h':=by
  simp only[ltOf,decide_eq_true_eq] at *;exact ZBD h h'
 ntrans x y z h h':=by
  simp only[ltOf,decide_eq_false_iff_not] at *;intro hc;rcases ZBl x y with k|k|k
  ·omega
  ·have:=ZBD (a:=y) (b:=x) (c:=z) (by omega) hc;exact h' this
  ·exact h' (k.2.2 ▸ hc)
theorem ZKC {d:Array Vx}:(flatK ZCr 2 d).toList=(d.toList.map ZCr).flatten:=by
 apply List.ext_getElem?;intro t;have hl:∀u∈d.toList.map ZCr,u.length=2:=fun u hu=>by obtain⟨x,_,rfl⟩:=List.mem_map.1 hu;rfl
 have hlen:((d.toList.map ZCr).flatten).length=d.size*2:=by
  rw[List.length_flatten];have:(List.map List.length (d.toList.map ZCr))=List.replicate d.size 2:=by
   rw[List.eq_replicate_iff];refine⟨by simp,fun b hb=>?_⟩;obtain⟨u,hu,rfl⟩:=List.mem_map.1 hb;exact hl u hu
  rw[this];simp
 by_cases ht:t<d.size*2
 ·have h1:t / 2<(d.toList.map ZCr).length:=by simp;omega
  have h2:t % 2<2:=Nat.mod_lt _ (by decide);have h3:((d.toList.map ZCr)[t / 2]'h1)[t % 2]?=some ((ZCr (d[t / 2]'(by omega)))[t % 2]'(by simp[ZCr];omega)):=by
   simp
  have h4:=Zt hl h1 h3;have h5:t / 2*2+t % 2=t:=by omega
  rw[h5] at h4;rw[h4];have h6:=get_flatK ZCr 2 d t ht;rw[Array.getElem?_toList];have h7:t<(flatK ZCr 2 d).size:=by simp;omega
  rw[getElem!_pos _ t h7,getElem!_pos d (t / 2) (by omega),getElem!_pos _ (t % 2) (by simp[ZCr];omega)] at h6;rw[Array.getElem?_eq_getElem h7,h6]
 ·rw[List.getElem?_eq_none (by simp;omega),List.getElem?_eq_none (by omega)]
section
variable {w:World} {g n cap:Nat} {os:Array Obj} {cur:Array Value} {e:TypeId} {fz:Nat × Nat}
theorem ZKK {F:Array Value} (hb:w.heap[g]?=some (.cells cur e (0,0))) (ht:cur.toList.take F.size=F.toList):Holds id w g 0 F:=by
 intro j hj;refine⟨?_,by simp[World.frozen?,hb]⟩;have h1:(cur.toList.take F.size)[j]?=F.toList[j]?:=by rw[ht]
 rw[List.getElem?_take_of_lt hj] at h1;simp only[World.cell?,hb,Nat.zero_add];simp only[Option.isSome_none,Bool.false_eq_true,if_false];rw[<- Array.getElem?_toList,h1,getElem!_pos _ j hj];simp[hj]
theorem ZKJ (F:Array Value) (hb:w.heap[g]?=some (.cells cur e fz)) :
  (grow (putRow id (Sort.ahead w n) g 0 F) os).heap[g]?=some (.cells (putCells id 0 F cur) e fz):=by
 have hg:g<w.heap.size:=(Array.getElem?_eq_some_iff.1 hb).1;rw[heap_grow_old _ _ (by simpa using hg)];simp[putRow,mapBlock,Sort.ahead,Array.getElem?_modify,hb,onCells]
theorem ZHA (F:Array Value):w.grownBy (grow (putRow id (Sort.ahead w n) g 0 F) os) (some g):=by
 refine⟨rfl,rfl,rfl,by simp,fun k hk hne=>?_⟩;rw[heap_grow_old _ _ (by simpa using hk)];have:g≠k:=fun e=>hne (by rw[e]);simp[putRow,mapBlock,Sort.ahead,Array.getElem?_modify,this]
theorem ZHm (cur F:Array Value) (h:F.size≤cur.size):(putCells id 0 F cur).toList.take F.size=F.toList:=by
 apply List.ext_getElem?;intro j;by_cases hj:j<F.size
 ·rw[List.getElem?_take_of_lt hj,Array.getElem?_toList];simp[putCells,hj,show j<cur.size by omega]
 ·rw[List.getElem?_take_eq_none (by omega),List.getElem?_eq_none (by simp;omega)]
end
section
variable {ops:Array Oper} {hp:List HObj} {fr:List Dat} {Q:Z4} {rest:List Oper} {dst:Option Tmp} {ty:TypeId} {ps:String} {af:Array Edge}
theorem ZJj {cf:FuncId} (hce:ZBR Tryz.prog cf) (hcx:∀(x y:Vx) (w:World),Calls Tryz.prog cf #[.agg #[.int .i64 x.1,.int .i64 x.2],.agg #[.int .i64 y.1,.int .i64 y.2]] w fun e w'=>e = .returned (.int .i64 (ZAW x y))/\∃q os',w'=Go.Sort.grow (w.drewN q) os') {x:Operand} {v:Value} {e:TypeId} {xs:List Vx} {ats:Array TypeId} (hx:OpD fr x (dX v)) (hlen:xs.length<4611686018427387904)
  (h:∀ys:List Vx,ys.Perm xs->ys.Pairwise (fun a b=>¬ ZAW b a<0)->WL Tryz.prog ops Q rest (ZC fr dst dA) (Zx v e 2 RV ys::hp)) :
  WL Tryz.prog ops Q (⟨dst,.call { callee:=.value (.func 148),args:=#[x,.func cf],argTypes:=ats },ty,ps,af,none⟩::rest) fr (Zx v e 2 RV xs::hp):=by
 refine WL.of fun P0 B w0 w a hh hf=>?_;have hok:=hh.ok (Zx v e 2 RV xs) (by simp);obtain⟨us,h1,h2,h0,h3,h4⟩:=hok;have hus:=ZLt h1 h4;subst hus;have hev:a.eval x=v:=hx.ev hf;obtain⟨hfl,hv⟩:=h3;by_cases hne0:xs=[]
 ·subst hne0;have hv0:∃p cap,v = .slice p 0 cap:=by
   rcases hv with ⟨hv,_⟩|⟨g,cap,cur,hv,_⟩
   ·exact⟨_,_,hv⟩
   ·exact⟨_,_,hv⟩
  obtain⟨p,cap,hv0⟩:=hv0;have hcon:=AnyF.slices_SortFunc_none (P:=Tryz.prog) (ρ:=Tryz.sortV_ren) Tryz.sortV p cap (.func (.func cf) #[] #[]) w;change Calls Tryz.prog 148 _ _ _ at hcon;have hrun:(execOp a.eval ⟨dst,.call { callee:=.value (.func 148),args:=#[x,.func cf],argTypes:=ats },ty,ps,af,none⟩).run Tryz.prog w = .ok (.enter 148 #[v,.func (.func cf) #[] #[]]) w:=by
   unfold execOp;simp only[resolve];have he:(#[x,Operand.func cf]:Array Operand).map a.eval=#[v,.func (.func cf) #[] #[]]:=by simp[hev];rfl
   rw[he];simp[Act.eval,Deferred.ofValue,invoke,Tryz.call148]
  refine wpList_plain rfl fun K hK=>?_;unfold Oper.wp;rw[hrun,hv0];refine hcon.mono fun e' w' ⟨he,hw'⟩=>?_;subst he;subst hw';exact hK _ _ ((h [] (List.Perm.refl _) List.Pairwise.nil).on hh (hf.put (d:=dA) trivial))
 have hne:0<xs.length:=List.length_pos_iff.2 hne0;rcases hv with ⟨_,hz⟩|⟨g,cap,cur,hv,hB,hg,hc1,hc2,hc3,hc4⟩
 ·omega
 have hgb:g<w.heap.size:=(Array.getElem?_eq_some_iff.1 hg).1;have hF:(flatK ZCr 2 xs.toArray).toList=(xs.map ZCr).flatten:=by rw[ZKC]
 have hFs:(flatK ZCr 2 xs.toArray).size=xs.length*2:=by simp
 have hH:HoldsK ZCr 2 w g 0 xs.toArray:=ZKK hg (by rw[hFs,hF];exact hc4);have hcon:=AnyQ.slices_SortFunc Tryz.sortV 2 Tryz.isAgg77 Tryz.sizeOf77 ZCr (fun _=>rfl) (fun x v hv=>by simp[ZCr] at hv;rcases hv with rfl|rfl <;> rfl) ZAW swoV cf #[] g 0 cap xs.toArray w hce
  (fun _ _ _ _ x y=>hcx x y _) hH hgb (by simpa using hlen)
 change Calls Tryz.prog 148 _ _ _ at hcon;subst hv;have hrun:(execOp a.eval ⟨dst,.call { callee:=.value (.func 148),args:=#[x,.func cf],argTypes:=ats },ty,ps,af,none⟩).run Tryz.prog w = .ok (.enter 148 #[.slice (some ⟨g,0,none⟩) xs.toArray.size cap,.func (.func cf) #[] #[]]) w:=by
  unfold execOp;simp only[resolve];have he:(#[x,Operand.func cf]:Array Operand).map a.eval=#[.slice (some ⟨g,0,none⟩) xs.toArray.size cap,.func (.func cf) #[] #[]]:=by simp[hev];rfl
  rw[he];simp[Act.eval,Deferred.ofValue,invoke,Tryz.call148]
 refine wpList_plain rfl fun K hK=>?_;unfold Oper.wp;rw[hrun];refine hcon.mono fun e' w' ⟨he,d',n,os,hp1,hs,hw'⟩=>?_;subst he;subst hw';obtain⟨q1,_,q3⟩:=hp1;have hsz:d'.size=xs.length:=by simpa using q1
 have hperm:d'.toList.Perm xs:=by
  have:xs.toArray.size=d'.size:=by simp[hsz]
  rw[this] at q3;have e1:d'.extract 0 d'.size=d':=by simp
  have e2:xs.toArray.extract 0 d'.size=xs.toArray:=by rw[hsz];simp
  rw[e1,e2] at q3;exact q3
 have hsort:d'.toList.Pairwise (fun a b=>¬ ZAW b a<0):=by
  rw[List.pairwise_iff_getElem];intro i j hi hj hij;have hi':i<d'.size:=by simpa using hi
  have hj':j<d'.size:=by simpa using hj
  have:=hs i j (Nat.zero_le _) hij (by simp;omega);rw[getElem!_pos d' i hi',getElem!_pos d' j hj'] at this;simpa[ltOf] using this
 have hF':(flatK ZCr 2 d').toList=(d'.toList.map ZCr).flatten:=ZKC;have hFs':(flatK ZCr 2 d').size=d'.toList.length*2:=by simp
 have hgr:w.grownBy (sortWorldK ZCr 2 w g 0 n d' os) (Zx (.slice (some ⟨g,0,none⟩) xs.length cap) e 2 RV xs).blk:=ZHA _;have hlen':d'.toList.length=xs.length:=by simpa using hsz
 have hok:(Zx (.slice (some ⟨g,0,none⟩) xs.length cap) e 2 RV d'.toList).ok (fun k=>Imm P0 B (Zx (.slice (some ⟨g,0,none⟩) xs.length cap) e 2 RV xs::hp) k/\k<w.heap.size) (sortWorldK ZCr 2 w g 0 n d' os):=by
  refine⟨d'.toList.map ZCr,by simp,fun u hu=>?_,by decide,⟨?_,.inr ⟨g,cap,putCells _root_.id 0 (flatK ZCr 2 d') cur,?_,hB,ZKJ _ hg,by omega,hc2,by simp[putCells,hc3],?_⟩⟩,fun k h h'=>?_⟩
  ·obtain⟨y,_,rfl⟩:=List.mem_map.1 hu;exact⟨rfl,by simp[ZCr,Value.oneCell']⟩
  ·rw[<- hF',Array.length_toList,hFs']
  ·rw[hlen']
  ·rw[<- hFs',<- hF'];exact ZHm _ _ (by rw[hFs',hlen',hc3];exact Nat.mul_le_mul_right _ hc1)
  ·show Value.agg _=_;rw[List.getElem_map];rfl
 exact hK _ _ ((h d'.toList hperm hsort).on (hh.write hgr (.inl rfl) hok) (ZWN (hf.mono fun _ _ hd=>Zd (o':=Zx (.slice (some ⟨g,0,none⟩) xs.length cap) e 2 RV d'.toList) hgr (.inl rfl) hd) (d:=dA) trivial))
theorem ZRO {x:Operand} {v:Value} {e:TypeId} {xs:List Vx} {ats:Array TypeId} (hx:OpD fr x (dX v)) (_hne:0<xs.length) (hlen:xs.length<4611686018427387904)
  (h:∀ys:List Vx,ys.Perm xs->ys.Pairwise (fun a b=>¬ ZAW b a<0)->WL Tryz.prog ops Q rest (ZC fr dst dA) (Zx v e 2 RV ys::hp)) :
  WL Tryz.prog ops Q (⟨dst,.call { callee:=.value (.func 148),args:=#[x,.func 79],argTypes:=ats },ty,ps,af,none⟩::rest) fr (Zx v e 2 RV xs::hp) :=
 ZJj Tryz.call79 (fun x y w=>M.ZT8 x y w) hx hlen h
end
end
section
open Go.RowKit

theorem of_p (l:List Vx) (hl:l.length≤100):Fn Tryz.prog 130 [dS ZI l] (dT [dS ZI (ofV l).1,dI (ofV l).2]):=by
 refine zF Tryz.func130 30 ?_;((repeat' (first|refine zS ?_|refine ZA fun Kx hK=>?_|(refine hK _ _ ?_;clear hK)|(apply zV;(focus ((first|exact ZHe|exact ZA3);all_goals infer_instance));exact zQ)|(apply ZB;exact oD;all_goals (intro h;try exact xD))|refine ZVr ?_|refine ZVs ?_|refine ZVp ?_|refine ZVz ?_));all_goals (first|refine WC.id ?_|((repeat clear hK);(repeat clear Kx))))
 ·(refine⟨trivial,⟨_,rfl,?_⟩,_,rfl,?_⟩ <;> (first|refine ZWH ?_|refine ZFN (by decide) ?_)) <;> ((unfold ofV;(repeat' split)) <;> (first|rfl|(exfalso;first|contradiction|omega)|(simp_all;done)))
 ·have hne:l.length≠0:=by omega
  (refine ZV4 (X:=Nat) (fun k=>[(12,dI (k:Int)),(2,dA),(3,dA),(5,dA),(13,dA),(14,dA),(15,dA),(16,dA),(17,dA),(18,dA),(19,dA)]) (fun k=>[]) (fun k=>l.length-k) (fun k=>k≤l.length/\(l.take k).all ZDL=true) 0 ?start ?frame0 ?objs0 ?round)
  case start=>simp
  case frame0=>exact zFr
  case objs0=>rfl
  case round =>
   rintro k ⟨h1,h2⟩;dsimp only[ZH,z0,z1];((repeat' (first|(apply zV;exact yF;exact zQ)|refine ZVj ?_|refine ZA fun Kx hK=>?_|(refine hK _ _ ?_;clear hK)|(refine ZV0 ?_;clear hK)|refine ZVk ?_ |  (apply ZOd (by decide) (ZTf l (by omega)) Tryz.call47;exact aD;intro vc;dsimp only[ZC,z0,z1]) |  (apply ZRO;exact ZVh rfl;omega;omega;intro ys hperm hsort;dsimp only[ZC,z0,z1]) |  (refine ZL7 (ZJ2 ys vc hsort (by rw[hperm.length_eq];omega)) Tryz.call150 ?_ ?_;exact aD;intro vd zs hzs;dsimp only[ZC,z0,z1])|(apply ZWF;exact tzV;(first|exact Z0 rfl|exact ZAw);(intro _;dsimp only[ZC,z0,z1]))|(apply ZR;exact tD;rfl;exact oD;exact hD;dsimp only[ZC,z0,z1])|(apply zV;(focus ((first|(apply ZVm (ZH8 _) Tryz.call78;exact aD)|exact ZBF|exact ZFM|exact ZLC|exact ZBg|exact ZA3|exact ZS);all_goals infer_instance));exact zQ)|(apply ZB;exact oD;all_goals (intro h;try exact xD))|(apply ZO;exact oD;all_goals (intro h;try exact xD))|refine ZVr ?_|refine ZVs ?_|refine ZV1 ?_|refine ZVp ?_|refine ZVx ?_|refine ZVz ?_|refine ZWC ?_));all_goals ((repeat clear hK);repeat clear Kx))
   ·have h3:l.all ZDL=false:=by rw[List.all_eq_false];exact⟨l[k],List.getElem_mem _,by simp[h]⟩
    (refine⟨trivial,⟨_,rfl,?_⟩,_,rfl,?_⟩ <;> (first|refine ZWH ?_|refine ZFN (by decide) ?_)) <;> ((unfold ofV;(repeat' split)) <;> (first|rfl|(exfalso;first|contradiction|omega)|(simp_all;done)))
   ·(refine zNx (k+1) ?_;(try dsimp only))
    exact⟨by omega,by rw[ZIT (by omega),h2,h];rfl⟩
   all_goals
    have h3:l.all ZDL=true:=by rw[List.take_of_length_le (by omega)] at h2;exact h2
    have hz:zs=ZC3 [] l:=asc_ext hzs.1 (ZIW (by simp[Asc])) fun u=>by rw[hzs.2,ZGQ,hperm.mem_iff];simp
    clear h2;subst hz;(refine⟨trivial,⟨_,rfl,?_⟩,_,rfl,?_⟩ <;> (first|refine ZWH ?_|refine ZBi (.head _) ?_|refine ZFN (by decide) ?_)) <;> ((unfold ofV;(repeat' split)) <;> (first|rfl|(exfalso;first|contradiction|omega)|(simp_all;done)))

end
end Go.Proofs.YtofkoleingbbpaaGreatDoor
namespace Go.Proofs
section
open Go.Shelf
def Tryz.growV_ren:Go.Shelf.Ren:=⟨fun|4=>159|n=>n,fun|22=>22|25=>77|3=>3|4=>4|9=>9|20=>20|0=>0|2=>3|n=>n,fun|n=>n⟩
theorem Tryz.growV:Go.Proofs.Lays8.n4 Tryz.prog Tryz.growV_ren:={
 mixed:=by kernel_rfl
 f4:=⟨Tryz.f159.name,by decide,Tryz.func159.trans (congrArg some (by kernel_rfl))⟩
 t0:=Tryz.underlying0
 a0:=Tryz.isAgg0
 z0:=Tryz.sizeOf0
 v0:=Tryz.zeroValue0
 t3:=Tryz.underlying3
 a3:=Tryz.isAgg3
 z3:=Tryz.sizeOf3
 v3:=Tryz.zeroValue3
 t4:=Tryz.underlying4
 a4:=Tryz.isAgg4
 z4:=Tryz.sizeOf4
 v4:=Tryz.zeroValue4
 t9:=Tryz.underlying9
 a9:=Tryz.isAgg9
 z9:=Tryz.sizeOf9
 v9:=Tryz.zeroValue9
 t20:=Tryz.underlying20
 a20:=Tryz.isAgg20
 z20:=Tryz.sizeOf20
 v20:=Tryz.zeroValue20
 t22:=Tryz.underlying22
 a22:=Tryz.isAgg22
 z22:=Tryz.sizeOf22
 v22:=Tryz.zeroValue22 }
end
end Go.Proofs
namespace Go.Proofs.YtofkoleingbbpaaGreatDoor
section
open Go.RowKit

section
variable {ops:Array Oper} {hp:List HObj} {fr:List Dat} {Q:Z4} {rest:List Oper} {dst:Option Tmp} {ty:TypeId} {ps:String} {af:Array Edge}
theorem ZRJ {x:Operand} {n:Nat} {ats:Array TypeId} (hx:OpD fr x (dI (n:Int))) (h0:0<n) (hn:n≤1000)
  (h:∀v:Value,WL Tryz.prog ops Q rest (ZC fr dst (dX v)) (Zx v 77 2 RV ([]:List Vx)::hp)) :
  WL Tryz.prog ops Q (⟨dst,.call { callee:=.value (.func 159),args:=#[.const (.slice none 0 0),x],argTypes:=ats },ty,ps,af,none⟩::rest) fr hp:=by
 refine WL.of fun P0 B w0 w a hh hf=>?_;obtain⟨i,hi',hz,hs,hb⟩:=info_parts elV.info;have hcon:=Any8.slices_Grow_grow Tryz.growV i _ hi' hz (by omega) none 0 0 n [] w (Nat.le_refl _) (by omega) (by rw[hb];omega) (by omega) (by simp) (fun _=>rfl) (by simp);change Calls Tryz.prog 159 _ _ _ at hcon;have hev:a.eval x = .int .i64 (n:Int):=hx.ev hf;have hrun:(execOp a.eval ⟨dst,.call { callee:=.value (.func 159),args:=#[.const (.slice none 0 0),x],argTypes:=ats },ty,ps,af,none⟩).run Tryz.prog w = .ok (.enter 159 #[.slice none 0 0,.int .i64 n]) w:=by
  unfold execOp;simp only[resolve];have he:(#[Operand.const (.slice none 0 0),x]:Array Operand).map a.eval=#[.slice none 0 0,.int .i64 n]:=by simp[hev];rfl
  rw[he];simp[Act.eval,Deferred.ofValue,invoke,Tryz.call159]
 refine wpList_plain rfl fun K hK=>?_;unfold Oper.wp;rw[hrun];refine hcon.mono fun e' w' ⟨he,hw'⟩=>?_;subst he;subst hw';have hge:=grownCap_ge w (0+n) 0 77;have hle:=grownCap_le_maxLen w (0+n) 0 77 (by unfold maxLen;omega);have hG:grownCap w (0+n) 0 (Tryz.growV_ren.t 25)=grownCap w (0+n) 0 77:=rfl;rw[hG];generalize grownCap w (0+n) 0 77=G at hge hle;have hx2:Ext w (w.drew.alloc (.cells (([]:List Value).toArray++Builtin.zeroCells (Value.agg #[.int .i64 0,.int .i64 0]).cells (0+n-0)++Builtin.zeroCells (Value.agg #[.int .i64 0,.int .i64 0]).cells (G-(0+n))) (Tryz.growV_ren.t 25))):=(ZWS w).drew.alloc _;have hb2:∀k,(Zx (.slice (some ⟨w.heap.size,0,none⟩) 0 G) 77 2 RV ([]:List Vx)).blk=some k->w.heap.size≤k/\k<(w.drew.alloc (.cells (([]:List Value).toArray++Builtin.zeroCells (Value.agg #[.int .i64 0,.int .i64 0]).cells (0+n-0)++Builtin.zeroCells (Value.agg #[.int .i64 0,.int .i64 0]).cells (G-(0+n))) (Tryz.growV_ren.t 25))).heap.size:=fun k hk=>by
  cases hk;exact⟨Nat.le_refl _,by rw[World.size_alloc];exact Nat.lt_succ_self _⟩
 refine hK _ _ ((h (.slice (some ⟨w.heap.size,0,none⟩) 0 G)).on (hh.push hx2 hb2 ?_) (ZWN (hf.mono fun d _ hd=>ZAJ hx2 (fun k hk=>(hb2 k hk).1) hd) rfl));refine ZEX.2 ⟨rfl,(([]:List Value).toArray++Builtin.zeroCells (Value.agg #[.int .i64 0,.int .i64 0]).cells (0+n-0)++Builtin.zeroCells (Value.agg #[.int .i64 0,.int .i64 0]).cells (G-(0+n))).toList,?_,by simp,by omega,?_⟩
 ·have:=Zw w.drew (.cells (([]:List Value).toArray++Builtin.zeroCells (Value.agg #[.int .i64 0,.int .i64 0]).cells (0+n-0)++Builtin.zeroCells (Value.agg #[.int .i64 0,.int .i64 0]).cells (G-(0+n))) (Tryz.growV_ren.t 25));rw[ZCL,List.nil_append,Array.toArray_toList];exact this
 ·rw[ZCL,List.nil_append];simp[Builtin.zeroCells,Value.cells];omega
end
end
section
theorem ZFZ (x y:Vx) : -1≤ZAW x y/\ZAW x y≤1:=by rcases ZBl x y with h|h|h <;> omega
theorem ZD8:∀(a b:List Vx),ZAa b a = - ZAa a b
 | [],[]=>by simp[ZAa]
 | [],_::_=>by simp[ZAa]
 | _::_,[]=>by simp[ZAa]
 | x::a,y::b=>by
  unfold ZAa;have h:=ZIa x y;split <;> split
  ·exact ZD8 a b
  ·omega
  ·omega
  ·exact h
theorem ZD9:∀(a b c:List Vx),ZAa a b≤0->ZAa b c≤0->ZAa a c≤0/\(ZAa a c=0->0≤ZAa a b+ZAa b c)
 | [],[],[],_,_=>by simp[ZAa]
 | [],[],_::_,_,_=>by simp[ZAa]
 | [],_::_,[],_,h=>by simp[ZAa] at h
 | [],_::_,_::_,_,_=>by simp[ZAa]
 | _::_,[],_,h,_=>by simp[ZAa] at h
 | _::_,_::_,[],_,h=>by simp[ZAa] at h
 | x::a,y::b,z::c,h,h'=>by
  have ih:=ZD9 a b c;unfold ZAa at h h' ⊢;have r1:=ZFZ x y;have r2:=ZFZ y z;by_cases e1:ZAW x y=0
  ·have:=ZBy.1 e1;subst this;rw[if_pos e1] at h ⊢;by_cases e2:ZAW x z=0
   ·simp only[e2,if_true] at h' ⊢;exact ih h h'
   ·rw[if_neg e2] at h';rw[if_neg e2];exact⟨h',fun h0=>absurd h0 e2⟩
  ·rw[if_neg e1] at h ⊢;by_cases e2:ZAW y z=0
   ·have:=ZBy.1 e2;subst this;rw[if_neg e1];omega
   ·rw[if_neg e2] at h' ⊢;have e3:=ZBD (by omega:ZAW x y<0) (by omega:ZAW y z<0);rw[if_neg (by omega)];omega
end
section
abbrev Cx:=List (List Vx)
def ZBY (l:Cx):Bool:=decide (l.length≤30) && l.all fun s=>decide (s.length≤10)
def ZFJ:Cx->List Vx->Cx
 | [],s=>[s]
 | x::l,s=>if ZAa s x<0 then s::x::l else x::ZFJ l s
def ZCb (l:Cx) (s:List Vx):Cx:=if s∈l then l else ZFJ l s
def ZEA (l:Cx) (s:List Vx):Bool:=l.any fun x=>decide (s.length<x.length) && Z8 s x
def ZEe:Option (List Vx)->Cx->Int
 | _,[]=>0
 | p,s::l=>if ZAC s≠0 then ZAC s else if(match p with|some u=>decide (0≤ZAa u s)|none=>false)=true then 14 else ZEe (some s) l
def ZB3 (l:Cx):Bool:=(List.range l.length).any fun i=>(List.range l.length).any fun k=>decide (i≠k) && Z8 (l.getD i []) (l.getD k [])
def ZBC (l:Cx):Int:=if 4096<l.length then 5 else if ZEe none l≠0 then ZEe none l else if ZB3 l=true then 7 else 0
def ZBm (c:Cx) (s:List Vx):Bool:=c.any fun f=>Z8 s f
def ZIV (c:Cx) (s:List Vx):Cx:=c.filter fun f=>Z8 s f
def ZAi (c:Cx) (k:Nat):Cx:=c.foldl (fun out f=>if f.length<k then out else(ZT k f).foldl ZCb out) []
theorem ZGO:∀(l:Cx) (s:List Vx),(ZFJ l s).length=l.length+1
 | [],s=>rfl
 | x::l,s=>by
  unfold ZFJ;split
  ·rfl
  ·simp[ZGO l s]
theorem ZSE (l:Cx) (s:List Vx):l.length≤(ZCb l s).length/\(ZCb l s).length≤l.length+1:=by
 unfold ZCb;split
 ·omega
 ·rw[ZGO];omega
theorem ZDW:∀(l out:Cx),out.length≤(l.foldl ZCb out).length/\(l.foldl ZCb out).length≤out.length+l.length
 | [],out=>by simp
 | s::l,out=>by
  have h1:=ZDW l (ZCb out s);have h2:=ZSE out s;simp only[List.foldl_cons,List.length_cons];omega
theorem ZGs (l:Cx) (k:Nat) (h:k<l.length):ZEe (l.take k).getLast? (l.drop k)=if ZAC l[k]≠0 then ZAC l[k] else if(match (l.take k).getLast? with|some u=>decide (0≤ZAa u l[k])|none=>false)=true then 14 else ZEe (l.take (k+1)).getLast? (l.drop (k+1)):=by
 rw[Zv h]
 conv=>lhs;unfold ZEe
 have e:(l.take (k+1)).getLast?=some l[k]:=by rw[Ze h,List.getLast?_append];rfl
 rw[e]
theorem ZCE (l:Cx) (k:Nat) (h:k<l.length) (h0:0<k):(l.take k).getLast?=some l[k-1]:=by
 rw[List.getLast?_eq_getElem?,List.length_take,Nat.min_eq_left (by omega),List.getElem?_take_of_lt (by omega),List.getElem?_eq_getElem (by omega)]
end
section
open Go.RowKit


theorem ZRo (l:Cx):Fn Tryz.prog 73 [dS Zh l] (dB (ZBY l)):=by
 refine zE Tryz.func73 19 ?_;((repeat' (first|refine zS ?_|refine ZA fun Kx hK=>?_|(refine hK _ _ ?_;clear hK)|(apply zV;(focus ((first|exact ZFM|exact ZA3);all_goals infer_instance));exact zQ)|(apply ZB;exact oD;all_goals (intro h;try exact xD))|refine ZVr ?_|refine ZVs ?_|refine ZVp ?_|refine ZVz ?_));all_goals (first|refine WC.id ?_|((repeat clear hK);(repeat clear Kx))))
 ·(refine⟨trivial,_,rfl,?_⟩;refine ZWL ?_)
  unfold ZBY;rw[decide_eq_false (by omega)];rfl
 ·have h0:l.length≤30:=by omega
  (refine ZV4 (X:=Nat) (fun k=>[(3,dI (k:Int)),(2,dA),(7,dA),(8,dA),(9,dA),(10,dA),(11,dA),(12,dA),(13,dA),(14,dA),(15,dA),(16,dA),(17,dA),(18,dA)]) (fun k=>[]) (fun k=>l.length-k) (fun k=>k≤l.length/\∀s∈l.take k,s.length≤10) 0 ?start ?frame0 ?objs0 ?round)
  case start=>simp
  case frame0=>exact zFr
  case objs0=>rfl
  case round =>
   rintro k ⟨h1,h2⟩;dsimp only[ZH,z0,z1];((repeat' (first|refine zS ?_|refine ZA fun Kx hK=>?_|(refine hK _ _ ?_;clear hK)|(refine ZV0 ?_;clear hK)|(apply zV;(focus ((first|(apply ZVm (few_c _) Tryz.call19;exact aD)|exact ZBF|exact ZLC|exact ZBg|exact ZA3|exact ZS);all_goals infer_instance));exact zQ)|(apply ZB;exact oD;all_goals (intro h;try exact xD))|(apply ZG;exact oD;all_goals (intro h;try exact xD))|refine ZVr ?_|refine ZVs ?_|refine ZV1 ?_|refine ZVp ?_|refine ZVx ?_|refine ZVz ?_|refine ZWC ?_));all_goals ((repeat clear hK);repeat clear Kx))
   ·(refine⟨trivial,_,rfl,?_⟩;refine ZWL ?_)
    unfold ZBY
    symm
    rw[Bool.and_eq_false_iff]
    right
    rw[List.all_eq_false];exact⟨_,List.getElem_mem (show k<l.length by omega),by rw[decide_eq_false (by omega)];exact Bool.false_ne_true⟩
   ·(refine zNx (k+1) ?_;(try dsimp only))
    refine⟨by omega,fun s hs=>?_⟩;rcases(Zu (by omega)).1 hs with h'|rfl
    ·exact h2 s h'
    ·omega
   ·rw[List.take_of_length_le (by omega)] at h2;(refine⟨trivial,_,rfl,?_⟩;refine ZWL ?_)
    unfold ZBY
    symm
    rw[Bool.and_eq_true,List.all_eq_true];exact⟨decide_eq_true h0,fun s hs=>decide_eq_true (h2 s hs)⟩
theorem ZU7 (l:Cx):Fn Tryz.prog 32 [dS Cpx l] (dB (ZBY l)):=by
 refine zE Tryz.func32 6 ?_;((repeat' (first|refine zS ?_|refine ZA fun Kx hK=>?_|(refine hK _ _ ?_;clear hK)|(apply zV;(focus ((first|(apply ZVm (ZRo _) Tryz.call73;exact aD)|exact Z2|exact ZEL);all_goals infer_instance));exact zQ)|refine ZVs ?_));all_goals ((repeat clear hK);repeat clear Kx))
 (refine⟨trivial,_,rfl,?_⟩;exact fD)
end
section
open Go.RowKit

theorem ZJ8 {p:List Vx->Bool} {l:Cx} {k:Nat} (h:k<l.length):(l.take (k+1)).filter p=(l.take k).filter p++(if p l[k]=true then[l[k]] else[]):=by
 rw[Ze h,List.filter_append];by_cases hp:p l[k]=true
 ·rw[if_pos hp,List.filter_cons_of_pos hp];rfl
 ·rw[if_neg hp,List.filter_cons_of_neg hp];rfl
end
section
open Go.RowKit

def ZBv:List Vx->List Vx->Bool
 | [],_=>true
 | v::a,b=>if(b.dropWhile fun x=>decide (x≠v))=[] then false else ZBv a (b.dropWhile fun x=>decide (x≠v))
theorem ZNN {v x:Vx} {a c:List Vx} (h:x≠v):ZBv (v::a) (x::c)=ZBv (v::a) c:=by
 unfold ZBv;rw[List.dropWhile_cons_of_pos (by simpa using h)]
theorem ZPQ {v:Vx} {a c:List Vx}:ZBv (v::a) (v::c)=ZBv a (v::c):=by
 conv=>lhs;unfold ZBv
 rw[List.dropWhile_cons_of_neg (by simp)];simp
theorem ZPP {v:Vx} {a:List Vx}:ZBv (v::a) []=false:=by unfold ZBv;simp
theorem ZML (a b:List Vx):Fn Tryz.prog 124 [dS ZI a,dS ZI b] (dB (ZBv a b)):=by
 refine zE Tryz.func124 29 ?_;(repeat' (first|refine zS ?_|refine ZA fun Kx hK=>?_|(refine hK _ _ ?_;clear hK)|((first|apply ZF|apply WD.op);(focus (first|exact wN|(apply ZVt;exact wY;((first|exact ZA3|fail);all_goals infer_instance))));dsimp only[ZC,z0,z1])|refine ZVp ?_))
 (first|refine ZP (t:=0) rfl ZEG fun hl0=>?_|refine ZP (t:=0) rfl ZDu fun hl0=>?_|refine ZP (t:=0) rfl ZJS fun hl0=>?_);simp only[maxLen] at hl0
 (refine ZV4 (X:=Nat × List Vx) (fun x=>[(9,dI (x.1:Int)),(1,dS ZI x.2),(4,dA),(6,dA),(10,dA),(11,dA),(12,dA),(13,dA),(14,dA),(15,dA),(16,dA),(17,dA),(18,dA),(19,dA),(20,dA),(21,dA),(22,dA),(23,dA),(24,dA),(25,dA),(26,dA),(27,dA),(28,dA)]) (fun x=>[]) (fun x=>a.length-x.1) (fun x=>x.1≤a.length/\ZBv a b=ZBv (a.drop x.1) x.2) (0,b) ?start ?frame0 ?objs0 ?round)
 case start=>exact⟨Nat.zero_le _,rfl⟩
 case frame0=>exact zFr
 case objs0=>rfl
 case round =>
  rintro⟨k,c⟩ ⟨h1,h2⟩;simp only at h1 h2;dsimp only[ZH,z0,z1];((repeat' (first|refine zS ?_|refine ZA fun Kx hK=>?_|(refine hK _ _ ?_;clear hK)|(refine ZV0 ?_;clear hK)|(apply ZWF;(first|exact tzV|exact tzC);(first|exact Z0 rfl|exact ZAw|exact shape_C0 rfl);(intro _;dsimp only[ZC,z0,z1]))|(apply ZR;exact tD;rfl;exact oD;exact hD;dsimp only[ZC,z0,z1])|((first|apply ZF|apply WD.op);(focus (first|exact wN|(apply ZVt;exact wY;((first|exact ZBF|exact ZS|fail);all_goals infer_instance))));dsimp only[ZC,z0,z1])|(apply ZB;exact oD;all_goals (intro h;try exact xD))|refine ZVr ?_|refine ZVs ?_|refine ZV1 ?_|refine ZVp ?_));all_goals (first|refine WC.id ?_|((repeat clear hK);(repeat clear Kx))))
  ·(refine ZV4 (X:=List Vx) (fun c'=>[(1,dS ZI c'),(13,dA),(14,dA),(15,dA),(16,dA),(17,dA),(18,dA),(19,dA),(20,dA),(21,dA),(22,dA),(23,dA),(24,dA)]) (fun c'=>[]) (fun c'=>c'.length) (fun c'=>c'.length≤c.length/\ZBv a b=ZBv (a.drop k) c') c ?start ?frame0 ?objs0 ?round)
   case start=>exact⟨Nat.le_refl _,h2⟩
   case frame0=>exact zFr
   case objs0=>rfl
   case round =>
    rintro c' ⟨h3,h4⟩;dsimp only[ZH,z0,z1];((repeat' (first|refine zS ?_|refine WD.nil ?_|refine ZA fun Kx hK=>?_|(refine hK _ _ ?_;clear hK)|(refine ZV0 ?_;clear hK)|(apply ZWB;kernel_rfl;kernel_rfl)|((first|apply ZF|apply WD.op);(focus (first|exact wN|(apply ZVt;exact wY;((first|(apply ZGd elV (ZVh rfl) ZV5 0 rfl;omega)|(apply ZGB elV (ZVh rfl) ZV5 1 rfl;omega)|exact ZCX|exact ZFM|exact ZHe|exact ZEm|exact ZBg|exact ZDf|exact ZA3|exact ZCV|fail);all_goals infer_instance))));dsimp only[ZC,z0,z1])|((first|refine ZM rfl rfl rfl (fun h=>?_) (fun h=>?_)|refine ZL rfl rfl rfl (fun h=>?_) (fun h=>?_)|refine ZK rfl rfl rfl (fun h=>?_) (fun h=>?_)|refine Za rfl rfl rfl (fun h=>?_) (fun h=>?_)|refine ZX rfl rfl rfl (fun h=>?_) (fun h=>?_)|refine ZV rfl rfl rfl (fun h=>?_) (fun h=>?_)) <;> (first|(exfalso;first|omega|contradiction)|(dsimp only[z0,z1])))|(apply ZQ;exact oD;(with_reducible rfl))|(apply ZB;exact oD;all_goals (intro h;try exact xD))|(apply ZG;exact oD;all_goals (intro h;try exact xD))|refine ZVr ?_|refine ZVs ?_|refine ZV1 ?_|refine ZVp ?_|refine ZVx ?_|refine ZVz ?_|refine ZWc ?_|refine ZWC ?_));all_goals ((repeat clear hK);repeat clear Kx))
    all_goals rw[List.drop_eq_getElem_cons (show k<a.length by omega)] at h4
    ·have hc:c'=c'[0]::c'.drop 1:=by
      have:=List.drop_eq_getElem_cons (show 0<c'.length by omega);rwa[List.drop_zero] at this
     have hd:(c'.drop 1).length=c'.length-1:=List.length_drop;(refine zNx (c'.drop 1) ?_;(try dsimp only))
     refine⟨by omega,?_⟩;rw[List.drop_eq_getElem_cons (show k<a.length by omega),h4]
     conv=>lhs;rw[hc]
     exact ZNN h
    ·have hc:c'=a[k]::c'.drop 1:=by
      have:=List.drop_eq_getElem_cons (show 0<c'.length by omega);rw[List.drop_zero] at this;rw[this];congr 1
     (refine zNx (k+1,c') ?_;(try dsimp only))
     refine⟨by omega,?_⟩;show _=ZBv (a.drop (k+1)) c';rw[h4]
     conv=>lhs;rw[hc,ZPQ]
     rw[<- hc]
    ·have hc:c'=[]:=List.eq_nil_of_length_eq_zero (by omega);(refine⟨trivial,_,rfl,?_⟩;refine ZWL ?_)
     rw[h4,hc,ZPP]
  ·rw[List.drop_of_length_le (by omega)] at h2;(refine⟨trivial,_,rfl,?_⟩;refine ZWL ?_)
   rw[h2];rfl
end
section
open Go.RowKit

abbrev ZRi (s:Cx) (p:List Vx->Bool):Dat:=ZK7 Tryz.prog (fun v:{v:List Vx // v∈s}=>[dS ZI v.1]) (fun v=>dB (p v.1))
theorem ZPS (s:Cx) (p:List Vx->Bool) (hl:s.length≤1000000):Fn Tryz.prog 151 [dS Zh s,ZRi s p] (dS Zh (s.filter p)):=by
 refine zE Tryz.func151 23 ?_;(repeat' (first|refine zS ?_|refine ZA fun Kx hK=>?_|(refine hK _ _ ?_;clear hK)|(apply zV;(focus ((first|exact ZA3);all_goals infer_instance));exact zQ)|refine ZVp ?_))
 refine Zn 22 ZI ?_;(refine ZV4 (X:=Nat × Value × Cx) (fun x=>[(5,dX x.2.1),(10,dI (x.1:Int)),(7,dA),(11,dA),(12,dA),(13,dA),(14,dA),(15,dA),(16,dA),(17,dA),(18,dA),(19,dA),(20,dA),(21,dA)]) (fun x=>[Zk x.2.1 22 ZI x.2.2]) (fun x=>s.length-x.1) (fun x=>x.1≤s.length/\x.2.2=(s.take x.1).filter p) (0,.slice none 0 0,[]) ?start ?frame0 ?objs0 ?round)
 case start=>exact⟨Nat.zero_le _,by simp⟩
 case frame0=>exact zFr
 case objs0=>rfl
 case round =>
  rintro⟨k,u,o⟩ ⟨h1,h2⟩;dsimp only[ZH,z0,z1];simp only at h1 h2;have hol:o.length≤1000000:=by
   have h5:=List.length_filter_le p (s.take k);rw[List.length_take] at h5;rw[h2];omega
  ((repeat' (first|refine zS ?_|refine ZA fun Kx hK=>?_|(refine hK _ _ ?_;clear hK)|(refine ZV0 ?_;clear hK)|((first|apply Zq|apply Zl);exact eD;exact ZVh rfl;exact oD;(intro _;exact hD);(exact(by simp));(exact(by simp));(first|exact⟨by decide,by decide⟩|skip);decide;exact lD;(intro _;dsimp only[ZC,z0,z1]);all_goals (try infer_instance))|(apply zV;(focus ((first|(apply ZBJ (x:=(⟨s[k],List.getElem_mem _⟩:{v:List Vx // v∈s}));(exact ZVh rfl);exact aD)|exact ZBF|exact ZBg|exact ZS);all_goals infer_instance));exact zQ)|(apply ZB;exact oD;all_goals (intro h;try exact xD))|(apply ZWY;exact oD;all_goals (intro h;try exact xD))|refine ZVr ?_|refine ZVs ?_|refine ZV1 ?_|refine ZVp ?_|refine ZVx ?_));all_goals ((repeat clear hK);repeat clear Kx))
  ·(refine zNx (k+1,_,o++[s[k]]) ?_;(try dsimp only))
   refine⟨by omega,?_⟩;show o++[s[k]]=_;rw[ZJ8 (by omega),if_pos h,<- h2]
  ·(refine zNx (k+1,u,o) ?_;(try dsimp only))
   refine⟨by omega,?_⟩;show o=_;rw[ZJ8 (by omega),if_neg (by rw[h];exact Bool.false_ne_true),List.append_nil,<- h2]
  ·rw[List.take_of_length_le (by omega)] at h2;subst h2;(refine⟨trivial,_,rfl,?_⟩;exact fD)
end
section
open Go.RowKit

theorem ZOp (f s:List Vx):Fn Tryz.prog 152 ([dS ZI f]++[dP 1 false (dS ZI s)]) (dB (ZBv s f)):=by
 show Fn Tryz.prog 152 [dS ZI f,dP 1 false (dS ZI s)] (dB (ZBv s f));refine zE Tryz.func152 7 ?_;((repeat' (first|refine zS ?_|refine ZA fun Kx hK=>?_|(refine hK _ _ ?_;clear hK)|(apply zV;(focus ((first|(apply ZVm (ZML _ _) Tryz.call124;exact aD));all_goals infer_instance));exact zQ)|refine ZVs ?_));all_goals ((repeat clear hK);repeat clear Kx))
 all_goals (refine⟨trivial,_,rfl,?_⟩;exact fD)
abbrev MemS (l:Cx):={v:List Vx // v∈l}
theorem ZRX (l:Cx) (s:List Vx) (hl:l.length≤1000000):Fn Tryz.prog 129 [dS Cpx l,dS ZI s] (dS Zh (l.filter (ZBv s))):=by
 refine zE Tryz.func129 9 ?_;((repeat' (first|refine zS ?_|refine ZA fun Kx hK=>?_|(refine hK _ _ ?_;clear hK)|(apply zV;(focus ((first|(apply ZBj (A:=fun v:MemS l=>[dS ZI v.1]) (r:=fun v=>dB (ZBv s v.1)) Tryz.call152 (fun v=>ZOp v.1 s) (fun _=>ZHs);exact aD)|(apply ZVm (ZPS l (ZBv s) hl) Tryz.call151;exact aD)|exact Z2|exact ZEL);all_goals infer_instance));exact zQ)|refine ZVs ?_));all_goals ((repeat clear hK);repeat clear Kx))
 all_goals (refine⟨trivial,_,rfl,?_⟩;exact fD)
abbrev ZSs (at':List Int) (p:Int->Bool):Dat:=ZK7 Tryz.prog (fun i:{i:Int // i∈at'}=>[dI i.1]) (fun i=>dB (p i.1))
theorem ZVF (l:List Int) (p:Int->Bool):Fn Tryz.prog 119 [dS ZAQ l,ZSs l p] (dI (ZH2 p 0 l)):=by
 refine zE Tryz.func119 19 ?_;(repeat' (first|refine zS ?_|refine ZA fun Kx hK=>?_|(refine hK _ _ ?_;clear hK)|(apply zV;(focus ((first|exact ZA3);all_goals infer_instance));exact zQ)|refine ZVp ?_))
 (first|refine ZP (t:=0) rfl ZEG fun hl0=>?_|refine ZP (t:=0) rfl ZDu fun hl0=>?_|refine ZP (t:=0) rfl ZJS fun hl0=>?_);simp only[maxLen] at hl0
 (refine ZV4 (X:=Nat) (fun k=>[(8,dI (k:Int)),(4,dA),(5,dA),(9,dA),(10,dA),(11,dA),(12,dA),(13,dA),(14,dA),(15,dA),(16,dA),(17,dA),(18,dA)]) (fun k=>[]) (fun k=>l.length-k) (fun k=>k≤l.length/\ZH2 p 0 l=ZH2 p k (l.drop k)) 0 ?start ?frame0 ?objs0 ?round)
 case start=>exact⟨Nat.zero_le _,rfl⟩
 case frame0=>exact zFr
 case objs0=>rfl
 case round =>
  rintro k ⟨h1,h2⟩;dsimp only[ZH,z0,z1];((repeat' (first|refine zS ?_|refine ZA fun Kx hK=>?_|(refine hK _ _ ?_;clear hK)|(refine ZV0 ?_;clear hK)|(apply zV;(focus ((first|(apply ZBJ (x:=(⟨l[k],List.getElem_mem _⟩:{i:Int // i∈l}));(exact ZVh rfl);exact aD)|exact ZBF|exact ZBg|exact ZS);all_goals infer_instance));exact zQ)|(apply ZB;exact oD;all_goals (intro h;try exact xD))|(apply ZWY;exact oD;all_goals (intro h;try exact xD))|refine ZVr ?_|refine ZVs ?_|refine ZV1 ?_|refine ZVp ?_|refine ZVx ?_|refine ZVz ?_|refine ZWC ?_));all_goals ((repeat clear hK);repeat clear Kx))
  ·(refine⟨trivial,_,rfl,?_⟩;refine ZWH ?_)
   rw[h2,ZC8 (by omega),if_pos h]
  ·(refine zNx (k+1) ?_;(try dsimp only))
   exact⟨by omega,by rw[h2,ZC8 (by omega),if_neg (by simp[h])]⟩
  ·(refine⟨trivial,_,rfl,?_⟩;refine ZWH ?_)
   rw[h2,List.drop_of_length_le (by omega)];rfl
theorem ZSr (l:List Int) (p:Int->Bool):Fn Tryz.prog 74 [dS ZAQ l,ZSs l p] (dB (l.any p)):=by
 refine zE Tryz.func74 9 ?_;((repeat' (first|refine zS ?_|refine ZA fun Kx hK=>?_|(refine hK _ _ ?_;clear hK)|(apply zV;(focus ((first|(apply ZVm (ZVF _ _) Tryz.call119;exact aD)|exact ZNw);all_goals infer_instance));exact zQ)|refine ZVs ?_));all_goals ((repeat clear hK);repeat clear Kx))
 all_goals ((refine⟨trivial,_,rfl,?_⟩;refine ZWL ?_);exact ZGN _ _)
end
section
def Zc:List Vx->List Int->Vx->Int
 | u::vs,a::A,v=>if u=v then a else Zc vs A v
 | _,_,_=>0
theorem ZHz:∀ {vs:List Vx} {A:List Int} {v:Vx},v∉vs->Zc vs A v=0
 | [],_,_,_=>by unfold Zc;rfl
 | _::_,[],_,_=>by unfold Zc;rfl
 | u::vs,a::A,v,h=>by
  unfold Zc;rw[if_neg fun e=>h (by rw[e];exact List.mem_cons_self ..)];exact ZHz fun q=>h (List.mem_cons_of_mem _ q)
theorem ZJ9:∀ {vs:List Vx} {A:List Int} {i:Nat} (_:vs.Nodup) (h:i<vs.length) (h':i<A.length),Zc vs A vs[i]=A[i]
 | u::vs,a::A,0,_,_,_=>by
  show Zc (u::vs) (a::A) u=a;unfold Zc;exact if_pos rfl
 | u::vs,a::A,i+1,hn,h,h'=>by
  have hn':=List.nodup_cons.1 hn;have hi:i<vs.length:=Nat.lt_of_succ_lt_succ h;show Zc (u::vs) (a::A) vs[i]=A[i]'(Nat.lt_of_succ_lt_succ h');unfold Zc;rw[if_neg fun e=>hn'.1 (by rw[e];exact List.getElem_mem _)];exact ZJ9 hn'.2 hi (Nat.lt_of_succ_lt_succ h')
theorem ZNo {vs:List Vx} {v:Vx} {i:Nat} (ha:Asc vs) (h1:∀k (h:k<vs.length),k<i->ZAW vs[k] v<0) (h2:∀k (h:k<vs.length),i≤k->¬ ZAW vs[k] v<0) (hv:v∈vs):∃h:i<vs.length,vs[i]=v:=by
 obtain⟨k,hk,rfl⟩:=List.getElem_of_mem hv;have h0:¬ ZAW vs[k] vs[k]<0:=by
  unfold ZAW;rw[if_neg (by omega),if_neg (by omega),if_neg (by omega),if_neg (by omega)];decide
 have hik:i≤k:=Nat.le_of_not_lt fun q=>h0 (h1 k hk q);have hi:i<vs.length:=by omega
 refine⟨hi,?_⟩;rcases Nat.lt_or_ge i k with q|q
 ·exact absurd (List.pairwise_iff_getElem.1 ha i k hi hk q) (h2 i hi (Nat.le_refl _))
 ·obtain rfl:i=k:=by omega
  rfl
end
section
theorem ZO5 {v:Vx}:ZAC [v]=0↔ZDL v=true:=by
 rw[Zi];constructor
 ·exact fun h=>h.2.2.1 v (List.mem_singleton_self v)
 ·intro h;refine⟨by simp,by simp,fun u hu=>?_,by simp[Asc]⟩;rw[List.mem_singleton.1 hu];exact h
end
end Go.Proofs.YtofkoleingbbpaaGreatDoor
namespace Go.Proofs.YtofkoleingbbpaaGreatDoor.M
section
open Go.RowKit
section
variable {P:Program} {ops:Array Oper} {hp:List HObj} {o:Oper} {fr:List Dat} {d:Dat} {Q:Z4} {rest:List Oper}
variable {dst:Option Tmp} {ty:TypeId} {ps:String} {af:Array Edge} {g:Option (Nat × Bool)}
theorem WL.alloc {T:TypeId} {n:Nat} {agg:Bool} {z:Value} (hz:TyZ P T z) (hs:(dX z).Shape n agg)
  (h:∀b,WL P ops Q rest (ZC fr dst (dX (.pointer (some ⟨b,0,none⟩)))) (Zm b T n agg (dX z)::hp)):WL P ops Q (⟨dst,.alloc T,ty,ps,af,none⟩::rest) fr hp:=by
 refine WL.of fun P0 B w0 w a hh hf=>?_;obtain⟨cs,k1,k0,k2,k3,k4⟩:=hs (fun _=>True) w z rfl;have hrun:(execOp a.eval ⟨dst,.alloc T,ty,ps,af,none⟩).run P w = .ok (.value (.pointer (some ⟨w.heap.size,0,none⟩))) (w.alloc (.cells cs.toArray T)):=by
  cases hq:P.info? T with
  | none=>have:=hz.out;simp[hq] at this
  | some i =>
   have hz':i.zero=some z:=by have:=hz.out;simpa[hq] using this
   unfold execOp;simp[Instr.alloc,zeroValue,typeInfo,hq,hz',newVar,newRow,k3]
 refine Zo rfl hrun ?_;have hx:=Ext.of_alloc w (.cells cs.toArray T);have hb:∀k,(Zm w.heap.size T n agg (dX z)).blk=some k->w.heap.size≤k/\k<(w.alloc (.cells cs.toArray T)).heap.size:=fun k hk=>by
  cases hk;exact⟨Nat.le_refl _,by simp⟩
 refine(h w.heap.size).on ⟨hh.h.push hx.b hb ⟨cs,z,Zw w _,k1,k0,k2,k4,rfl⟩,hh.d⟩ ?_;exact Fr.put (hf.mono fun d _ hd=>ZAJ hx.b (fun k hk=>(hb k hk).1) hd) rfl

theorem ZC2 {x:Operand} {t b n:Nat} {T T2:TypeId} {agg:Bool} {d0:Dat} (hT:TyI P T n agg) (hp0:OpD fr (.tmp t) (dX (.pointer (some ⟨b,0,none⟩)))) (hx:OpD fr x d) (hs:d.Shape n agg)
  (h:WL P ops Q rest (ZC fr dst (dX undef)) (Zm b T2 n agg d::hp)):WL P ops Q (⟨dst,.store T (.tmp t) x,ty,ps,af,none⟩::rest) fr (Zm b T2 n agg d0::hp):=by
 refine WL.of fun P0 B w0 w a hh hf=>?_;obtain⟨cs,u,c1,c2,c0,c3,c4,c5⟩:=hh.h.ok (Zm b T2 n agg d0) (by simp);have h1:=hx.ev hf;obtain⟨cs',k1,k0,k2,k3,k4⟩:=hs _ _ _ h1;have h2:a.eval (.tmp t) = .pointer (some ⟨b,0,none⟩):=hp0.ev hf;have hr:=ZDG (u:=a.eval x) hT.size c1 c2 k1 k2 k3;have hrun:(execOp a.eval ⟨dst,.store T (.tmp t) x,ty,ps,af,none⟩).run P w = .ok .skip (w.setRow b cs'.toArray):=by
  unfold execOp;simp only[h2,Sem.run_bind,hr,Result.andThen_ok,Sem.run_pure]
 refine wpList_plain rfl fun K hK=>?_;unfold Oper.wp;rw[hrun];have hgr:w.grownBy (w.setRow b cs'.toArray) (Zm b T2 n agg d0).blk:=ZAM;have hok:(Zm b T2 n agg d).ok (fun k=>Imm P0 B (Zm b T2 n agg d0::hp) k/\k<w.heap.size) (w.setRow b cs'.toArray) :=
  ⟨cs',a.eval x,setRow_heap w b _ _ _ _ c1,k1,k0,k2,k4,d.grown (d.bound h1) hgr (fun k hk hc=>hc.1.2 _ (by simp) hk)⟩
 exact hK _ _ (h.on ⟨hh.h.write hgr (.inl rfl) hok,hh.d⟩ (Fr.put (hf.mono fun _ _ hd=>Zd (o':=Zm b T2 n agg d) hgr (.inl rfl) hd) (d:=dX undef) rfl))
theorem ZGg {t b n:Nat} {T:TypeId} {agg:Bool} (hp0:fr[t]?=some (dX (.pointer (some ⟨b,0,none⟩)))) (h:WL P ops Q rest (fr.set t (dP n agg d)) hp):WL P ops Q rest fr (Zm b T n agg d::hp):=by
 refine WL.of fun P0 B w0 w a hh hf=>?_;obtain⟨cs,u,c1,c2,c0,c3,c4,c5⟩:=hh.h.ok (Zm b T n agg d) (by simp);have hown:=hh.h.own (Zm b T n agg d) (by simp) b rfl;refine h.on ⟨hh.h.drop,hh.d⟩ ⟨hf.defers,by rw[hf.size,List.length_set],fun t' d' hd'=>?_⟩;by_cases htt:t=t'
 ·subst htt;rw[List.getElem?_set] at hd';simp only[if_true] at hd';split at hd'
  ·cases hd';have hv:a.tmps.getD t undef = .pointer (some ⟨b,0,none⟩):=hf.rd t _ hp0;rw[hv];refine⟨b,0,u,rfl,ZA6 c1 c2 c0 c3 c4 ⟨.inr hown.1,fun o' ho' hk=>?_⟩,d.weak c5 Imm.sub⟩;exact(List.pairwise_cons.1 hh.h.apart).1 o' ho' b rfl hk
  ·cases hd'
 ·rw[List.getElem?_set_ne htt] at hd';exact d'.weak (hf.rd t' d' hd') Imm.sub
theorem ZR {x:Operand} {t b n:Nat} {T T2:TypeId} {agg:Bool} {d0:Dat} (hT:TyI P T n agg) (hp0:fr[t]?=some (dX (.pointer (some ⟨b,0,none⟩)))) (hx:OpD fr x d) (hs:d.Shape n agg)
  (h:WL P ops Q rest (fr.set t (dP n agg d)) hp):WL P ops Q (⟨none,.store T (.tmp t) x,ty,ps,af,none⟩::rest) fr (Zm b T2 n agg d0::hp) :=
 ZC2 hT (OpD.t hp0) hx hs (ZGg hp0 h)
end
end
section
open Go.RowKit

theorem ZO7 (a b:List Vx):Fn Tryz.prog 122 [dS ZI a,dS ZI b,ZK7 Tryz.prog (fun x:Vx × Vx=>[dS RV x.1,dS RV x.2]) (fun x=>dI (ZAW x.1 x.2))] (dI (ZAa a b)):=by
 (refine ZE Tryz.func122 rfl rfl ?_;simp only[Tryz.ntmps122,List.length_cons,List.length_nil,Nat.reduceAdd,Nat.reduceSub,List.replicate_succ,List.replicate_zero,List.cons_append,List.nil_append])
 (repeat' (first|(apply ZF;(focus (apply SYG.yes;(exact ZY rfl);(first|(apply SY.move <;> exact oD)|(apply SY.assign <;> exact oD)|(apply SY.load;exact tD;(exact OpD.t rfl)))));dsimp only[ZC,z0,z1])|refine WL.nil ?_|refine ZA fun Kx hK=>?_|(refine hK _ _ ?_;clear hK)|refine WC.region ?_|(apply ZF;(focus (apply SYG.yes;(exact ZY rfl);((first|(apply SY.len;exact oD;exact nD;exact uD)|fail);all_goals infer_instance)));dsimp only[ZC,z0,z1])|refine WC.block ?_))
 (first|refine ZP (t:=0) rfl ZEG fun hl0=>?_|refine ZP (t:=0) rfl ZDu fun hl0=>?_);simp only[maxLen] at hl0
 (first|refine ZP (t:=1) rfl ZEG fun hl1=>?_|refine ZP (t:=1) rfl ZDu fun hl1=>?_);simp only[maxLen] at hl1
 (refine WC.loopU (X:=Nat) (fun k=>[(13,dI (k:Int)),(6,dA),(7,dA),(8,dA),(9,dA),(10,dA),(14,dA),(15,dA),(16,dA),(17,dA),(18,dA),(19,dA),(20,dA),(21,dA),(22,dA),(23,dA),(24,dA),(25,dA),(26,dA),(27,dA),(28,dA),(29,dA),(30,dA),(31,dA),(32,dA),(33,dA)]) (fun k=>[]) (fun k=>a.length-k) (fun k=>k≤a.length/\k≤b.length/\ZAa a b=ZAa (a.drop k) (b.drop k)) 0 ?start ?frame0 ?objs0 ?round)
 case start=>exact⟨Nat.zero_le _,Nat.zero_le _,rfl⟩
 case frame0=>exact zFr
 case objs0=>rfl
 case round =>
  rintro k ⟨h1,h2,h3⟩;dsimp only[ZH,z0,z1];((repeat' (first|(apply ZF;(focus (apply SYG.yes;(exact ZY rfl);(first|(apply SY.move <;> exact oD)|(apply SY.assign <;> exact oD)|(apply SY.load;exact tD;(exact OpD.t rfl)))));dsimp only[ZC,z0,z1])|refine WL.nil ?_|refine ZA fun Kx hK=>?_|(refine hK _ _ ?_;clear hK)|(refine Kont.skip ?_;clear hK)|refine WC.region ?_|(apply WL.alloc;exact tzV;(first|exact Z0 rfl|exact ZAw);(intro _;dsimp only[ZC,z0,z1]))|(apply ZR;exact tD;rfl;exact oD;exact hD;dsimp only[ZC,z0,z1])|(apply ZF;(focus (apply SYG.yes;(exact ZY rfl);((first|(apply ZBJ (x:=((a[k],b[k]):Vx × Vx));(exact OpD.t rfl);exact aD)|((first|apply SY.move|apply SY.assign|apply SY.lss|apply SY.geq|apply SY.neq) <;> exact oD)|((first|apply SY.add) <;> first|exact oD|omega)|(apply SY.len;exact oD;exact nD;exact uD)|(apply Zy;exact eD;exact oD;exact oD;exact kD)|fail);all_goals infer_instance)));dsimp only[ZC,z0,z1])|(apply ZB;exact oD;(all_goals intro h);(all_goals try (exfalso;first|omega|contradiction)))|(apply ZG;exact oD;(all_goals intro h);(all_goals try (exfalso;first|omega|contradiction)))|refine WC.skip ?_|refine WC.ret ?_|refine WC.exit ?_|refine WC.block ?_|refine ThenD.n ?_|refine ThenD.r ?_|refine InBlockD.r ?_));all_goals ((repeat clear hK);repeat clear Kx))
  all_goals first
   | ((refine zNx (k+1) ?_;(try dsimp only));exact⟨by omega,by omega,h3.trans (ZGv (by omega) (by omega) (by assumption))⟩)
   | ((refine⟨trivial,_,rfl,?_⟩;refine FinD.i ?_);rw[h3,ZEu];repeat' split) <;> first|rfl|contradiction|omega
theorem ZHx (a b:List Vx):Fn Tryz.prog 80 [dS ZI a,dS ZI b] (dI (ZAa a b)):=by
 (refine ZE Tryz.func80 rfl rfl ?_;simp only[Tryz.ntmps80,List.length_cons,List.length_nil,Nat.reduceAdd,Nat.reduceSub,List.replicate_succ,List.replicate_zero,List.cons_append,List.nil_append])
 ((repeat' (first|(apply ZF;(focus (apply SYG.yes;(exact ZY rfl);(first|(apply SY.move <;> exact oD)|(apply SY.assign <;> exact oD))));dsimp only[ZC,z0,z1])|refine WL.nil ?_|refine ZA fun Kx hK=>?_|(refine hK _ _ ?_;clear hK)|refine WC.region ?_|(apply ZF;(focus (apply SYG.yes;(exact ZY rfl);((first|(apply SY.call (ZO7 _ _) Tryz.call122;exact aD)|fail);all_goals infer_instance)));dsimp only[ZC,z0,z1])|refine WC.ret ?_));all_goals ((repeat clear hK);repeat clear Kx))
 all_goals ((refine⟨trivial,_,rfl,?_⟩;refine FinD.i ?_);try rfl)
theorem ZU0 {I:Nat->Prop} {w:World} {u v:Value} {a b:List Vx} (hu:ZI I w u a) (hv:ZI I w v b):Calls Tryz.prog 80 #[u,v] w fun e w'=>e = .returned (.int .i64 (ZAa a b))/\∃q os',w'=Go.Sort.grow (w.drewN q) os':=by
 have:=(ZHx a b).out I w [u,v] rfl (fun i d hd=>by
  match i with
  | 0=>cases hd;exact hu
  | 1=>cases hd;exact hv
  | i+2=>simp at hd)
 exact this.mono fun e w' ⟨v,h1,h2,h3⟩=>⟨by rw[h1];exact congrArg _ h3,h2.grow⟩
end
section
open Go.RowKit

section
variable {P:Program} {ops:Array Oper} {hp:List HObj} {fr:List Dat} {dst:Option Tmp} {ty:TypeId} {ps:String} {af:Array Edge} {g:Option (Nat × Bool)} {t e:TypeId} {n bytes:Nat} {z:Value} {ag:Bool}
theorem SY.buildE (E:ElT P t e n z bytes ag) {α:Type} {R:Rel α} {_gR:Good R} {len:Nat} {parts:Array (Nat × Operand)} {els:List α} (hx:ElsD fr R (parts.toList.map Prod.snd) els) (hparts:parts.toList=((parts.toList.map Prod.snd).zipIdx).map (fun p=>(p.2,p.1))) (hl:len=els.length) (hn:0<n) (hs:∀a,(dS R a).Shape n true) (hsm:els.length*n≤16777216) :
  SY P ops hp ⟨dst,.buildSlice t len parts,ty,ps,af,g⟩ fr (dS (ArrK n R) els):=SY.buildK E hx hparts hl hn hs hsm
end
theorem ZMJ (x y:Vx):ZAa [x] [y]=ZAW x y:=by
 unfold ZAa;by_cases h:ZAW x y=0
 ·rw[if_pos h,h];rfl
 ·rw[if_neg h]
theorem vtx_p (x y:Vx):Fn Tryz.prog 149 [dS RV x,dS RV y] (dI (ZAW x y)):=by
 (refine ZE Tryz.func149 rfl rfl ?_;simp only[Tryz.ntmps149,List.length_cons,List.length_nil,Nat.reduceAdd,Nat.reduceSub,List.replicate_succ,List.replicate_zero,List.cons_append,List.nil_append])
 ((repeat' (first|(apply ZF;(focus (apply SYG.yes;(exact ZY rfl);(first|(apply SY.assign <;> exact oD)|(apply SY.load;exact tD;(exact OpD.t rfl)))));dsimp only[ZC,z0,z1])|refine WL.nil ?_|refine ZA fun Kx hK=>?_|(refine hK _ _ ?_;clear hK)|refine WC.region ?_|(apply ZF;(focus (apply SYG.yes;(exact ZY rfl);((first|(apply SY.call (ZHx [x] [y]) Tryz.call80;exact aD)|(apply SY.buildE;exact eD;((try simp only[List.map_cons,List.map_nil]);(repeat (first|exact Zr|(apply Zp;(first|exact OpD.t rfl|exact OpD.i|exact OpD.b|exact OpD.tle rfl (by first|exact ZN|exact ZJ (by decide))|exact⟨ZN⟩|exact⟨ZJ (by decide)⟩)))));rfl;rfl;decide;(intro _;exact ZBA);(exact(by simp)))|(apply SY.box;exact oD;exact hD)|fail);all_goals infer_instance)));dsimp only[ZC,z0,z1])|refine WC.ret ?_));all_goals ((repeat clear hK);repeat clear Kx))
 all_goals (rw[ZMJ];(refine⟨trivial,_,rfl,?_⟩;refine FinD.i ?_);try rfl)
theorem vtx_x (x y:Vx) (w:World):Calls Tryz.prog 149 #[.agg #[.int .i64 x.1,.int .i64 x.2],.agg #[.int .i64 y.1,.int .i64 y.2]] w fun e w'=>e = .returned (.int .i64 (ZAW x y))/\∃q os',w'=Go.Sort.grow (w.drewN q) os':=by
 have:=(vtx_p x y).out (fun _=>True) w [.agg #[.int .i64 x.1,.int .i64 x.2],.agg #[.int .i64 y.1,.int .i64 y.2]] rfl (fun i d hd=>by
  match i with
  | 0=>cases hd;rfl
  | 1=>cases hd;rfl
  | i+2=>simp at hd)
 exact this.mono fun e w' ⟨v,h1,h2,h3⟩=>⟨by rw[h1];exact congrArg _ h3,h2.grow⟩
end
end Go.Proofs.YtofkoleingbbpaaGreatDoor.M
namespace Go.Proofs.YtofkoleingbbpaaGreatDoor
section
theorem ZEv {a b c:List Vx} (h:ZAa a b<0) (k:ZAa b c<0):ZAa a c<0:=by
 obtain⟨h1,h2⟩:=ZD9 a b c (by omega) (by omega);rcases Int.lt_or_eq_of_le h1 with h3|h3
 ·exact h3
 ·have:=h2 h3;omega
theorem ZGI (a:List Vx):ZAa a a=0:=ZBM.2 rfl
theorem ZHw (a b:List Vx):ZAa a b<0\/ZAa b a<0\/a=b:=by
 have h:=ZD8 a b;by_cases h1:ZAa a b<0
 ·exact .inl h1
 by_cases h2:ZAa b a<0
 ·exact .inr (.inl h2)
 ·exact .inr (.inr (ZBM.1 (by omega)))
def SortL (xs:Cx):Prop:=xs.Pairwise fun a b=>¬ ZAa b a<0
def AscL (xs:Cx):Prop:=xs.Pairwise fun a b=>ZAa a b<0
theorem ZMD:∀ {a b:Cx},AscL a->AscL b->(∀x,x∈a↔x∈b)->a=b
 | [],[],_,_,_=>rfl
 | [],y::b,_,_,h=>absurd ((h y).2 (by simp)) (by simp)
 | x::a,[],_,_,h=>absurd ((h x).1 (by simp)) (by simp)
 | x::a,y::b,ha,hb,h=>by
  unfold AscL at ha hb;rw[List.pairwise_cons] at ha hb;have hxy:x=y:=by
   have h1:=(h x).1 (by simp);have h2:=(h y).2 (by simp);rw[List.mem_cons] at h1 h2;rcases h1 with h1|h1
   ·exact h1
   rcases h2 with h2|h2
   ·exact h2.symm
   have h3:=hb.1 x h1;have h4:=ha.1 y h2;have:=ZD8 x y;omega
  subst hxy;rw[ZMD ha.2 hb.2 fun z=>?_];have h1:=h z;rw[List.mem_cons,List.mem_cons] at h1;constructor
  ·intro hz;rcases h1.1 (.inr hz) with rfl|h2
   ·have:=ha.1 z hz;have:=ZGI z;omega
   ·exact h2
  ·intro hz;rcases h1.2 (.inr hz) with rfl|h2
   ·have:=hb.1 z hz;have:=ZGI z;omega
   ·exact h2
theorem AscL.nodup {a:Cx} (h:AscL a):a.Nodup:=List.Pairwise.imp (fun {x y} hxy hc=>by
 subst hc;have:=ZGI x;omega) h
theorem ZIo:∀ {l:Cx} {s x:List Vx},x∈ZFJ l s↔x=s\/x∈l
 | [],s,x=>by simp[ZFJ]
 | y::l,s,x=>by
  unfold ZFJ;split
  ·simp
  ·rw[List.mem_cons,ZIo,List.mem_cons];constructor
   ·rintro(h|h|h) <;> simp[h]
   ·rintro(h|h|h) <;> simp[h]
theorem ZSF {l:Cx} {s x:List Vx}:x∈ZCb l s↔x=s\/x∈l:=by
 unfold ZCb;split
 ·rename_i h;exact⟨.inr,fun h'=>h'.elim (fun e=>e ▸ h) id⟩
 ·exact ZIo
theorem ZMT:∀ {l:Cx} {s:List Vx},AscL l->s∉l->AscL (ZFJ l s)
 | [],s,_,_=>by simp[ZFJ,AscL]
 | y::l,s,h,hs=>by
  have h':=h;unfold AscL at h';rw[List.pairwise_cons] at h';unfold ZFJ;split
  ·rename_i hlt;unfold AscL;rw[List.pairwise_cons];refine⟨fun a ha=>?_,h⟩;rcases List.mem_cons.1 ha with rfl|ha
   ·exact hlt
   ·exact ZEv hlt (h'.1 a ha)
  ·rename_i hlt;unfold AscL;rw[List.pairwise_cons];refine⟨fun a ha=>?_,ZMT h'.2 fun hc=>hs (by simp[hc])⟩;rcases ZIo.1 ha with rfl|ha
   ·rcases ZHw a y with k|k|k
    ·exact absurd k hlt
    ·exact k
    ·exact absurd (by rw[k];simp) hs
   ·exact h'.1 a ha
theorem ZSD {l:Cx} {s:List Vx} (h:AscL l):AscL (ZCb l s):=by
 unfold ZCb;split
 ·exact h
 ·rename_i hs;exact ZMT h hs
theorem ZG4:∀ {l out:Cx},AscL out->AscL (l.foldl ZCb out)
 | [],_,h=>h
 | s::l,out,h=>ZG4 (l:=l) (ZSD h)
theorem ZG5:∀ {l out:Cx} {x:List Vx},x∈l.foldl ZCb out↔x∈l\/x∈out
 | [],out,x=>by simp
 | s::l,out,x=>by
  rw[List.foldl_cons,ZG5 (l:=l),ZSF,List.mem_cons];constructor
  ·rintro(h|h|h) <;> simp[h]
  ·rintro((h|h)|h) <;> simp[h]
theorem ZFy {l:Cx} {s:List Vx}:ZEA l s=true↔∃x∈l,s.length<x.length/\Z8 s x=true:=by
 unfold ZEA;simp
end
section
open Go.RowKit

def ZRh (l:Cx) (s:List Vx) (i:Int):Bool:=decide (s.length<(l.getD i.toNat []).length) && ZBv s (l.getD i.toNat [])
theorem ZU2 (l:Cx) (s:List Vx) (i:Int) (h0:0≤i) (h1:i<l.length):Fn Tryz.prog 123 ([dI i]++[dP 1 false (dS Zh l),dP 1 false (dS ZI s)]) (dB (ZRh l s i)):=by
 obtain⟨k,rfl⟩:∃k:Nat,i=k:=⟨i.toNat,by omega⟩;have hk:k<l.length:=by omega
 have e:ZRh l s (k:Int)=(decide (s.length<l[k].length) && ZBv s l[k]):=by
  unfold ZRh;rw[Int.toNat_natCast,show l.getD k []=l[k] by simp[List.getD,hk]]
 rw[e];show Fn Tryz.prog 123 [dI (k:Int),dP 1 false (dS Zh l),dP 1 false (dS ZI s)] _;refine zE Tryz.func123 21 ?_;((repeat' (first|refine zS ?_|refine WD.nil ?_|refine ZA fun Kx hK=>?_|(refine hK _ _ ?_;clear hK)|(apply ZWB;kernel_rfl;kernel_rfl)|((first|apply ZF|apply WD.op);(focus (first|exact wN|(apply ZVt;exact wY;((first|(apply ZVm (ZML _ _) Tryz.call124;exact aD)|exact ZCX|exact ZFM|exact ZDf|exact ZA3|exact ZS|exact ZCV|fail);all_goals infer_instance))));dsimp only[ZC,z0,z1])|((first|refine ZM rfl rfl rfl (fun h=>?_) (fun h=>?_)|refine ZL rfl rfl rfl (fun h=>?_) (fun h=>?_)|refine ZK rfl rfl rfl (fun h=>?_) (fun h=>?_)|refine Za rfl rfl rfl (fun h=>?_) (fun h=>?_)|refine ZX rfl rfl rfl (fun h=>?_) (fun h=>?_)|refine ZV rfl rfl rfl (fun h=>?_) (fun h=>?_)) <;> (first|(exfalso;first|omega|contradiction)|(dsimp only[z0,z1])))|refine ZVs ?_));all_goals ((repeat clear hK);repeat clear Kx))
 ·rw[decide_eq_true (show s.length<l[k].length by omega),Bool.true_and];(refine⟨trivial,_,rfl,?_⟩;exact fD)
 ·rw[decide_eq_false (show ¬ s.length<l[k].length by omega),Bool.false_and];(refine⟨trivial,_,rfl,?_⟩;exact fD)
abbrev MemI (l:List Int):={v:Int // v∈l}
theorem ZNK (l:Cx) (at':List Int) (s:List Vx) (hat:∀i∈at',0≤i/\i<l.length):Fn Tryz.prog 82 [dS Zh l,dS ZAQ at',dS ZI s] (dB (at'.any (ZRh l s))):=by
 refine zE Tryz.func82 10 ?_;((repeat' (first|refine zS ?_|refine ZA fun Kx hK=>?_|(refine hK _ _ ?_;clear hK)|(apply zV;(focus ((first|(apply ZBj (A:=fun v:MemI at'=>[dI v.1]) (r:=fun v=>dB (ZRh l s v.1)) Tryz.call123 (fun v=>ZU2 l s v.1 (hat v.1 v.2).1 (hat v.1 v.2).2) (fun _=>ZHs);exact aD)|(apply ZVm (ZSr at' (ZRh l s)) Tryz.call74;exact aD)|exact ZEL);all_goals infer_instance));exact zQ)|refine ZVs ?_));all_goals ((repeat clear hK);repeat clear Kx))
 all_goals (refine⟨trivial,_,rfl,?_⟩;exact fD)
end
end Go.Proofs.YtofkoleingbbpaaGreatDoor
