/- Part 7: walks by contracts, and plain laws. -/
import Derived.Deep.MidRow
import Derived.Test.YtofkoleingbbpaaGreatDoorXa6
set_option linter.unusedVariables false
set_option linter.unusedSimpArgs false
set_option linter.unusedSectionVars false
set_option maxRecDepth 100000
set_option maxHeartbeats 64000000
namespace Go.Proofs.YtofkoleingbbpaaGreatDoor
section
open Go.RowKit

def Zt (xs:List Vx):List Value:=(xs.map ZCq).flatten
theorem ZCM:Zt []=[]:=rfl
theorem ZA1 (x:Vx) (l:List Vx):Zt (x::l) = .int .i64 x.1 :: .int .i64 x.2::Zt l:=rfl
theorem Z1:∀(l:List Vx),(Zt l).length=l.length*2
 | []=>rfl
 | x::l=>by rw[ZA1];simp only[List.length_cons,Z1 l];omega
theorem ZBZ (a b:List Vx):Zt (a++b)=Zt a++Zt b:=by unfold Zt;rw[List.map_append,List.flatten_append]
theorem ZEy (l:List Vx):∀c∈Zt l,c.oneCell'=true:=fun c hc=>by
 unfold Zt at hc;obtain⟨u,hu,hc⟩:=List.mem_flatten.1 hc;obtain⟨x,_,rfl⟩:=List.mem_map.1 hu;simp[ZCq] at hc;rcases hc with rfl|rfl <;> rfl
theorem ZG4 {l:List Vx} {k:Nat} (h:k<l.length):(Zt l)[k*2]?=some (.int .i64 l[k].1)/\(Zt l)[k*2+1]?=some (.int .i64 l[k].2):=by
 have e:l=l.take k++l[k]::l.drop (k+1):=by rw[<- List.drop_eq_getElem_cons h,List.take_append_drop]
 have hl:(Zt (l.take k)).length=k*2:=by rw[Z1,List.length_take];congr 1;omega
 have e2:Zt l=Zt (l.take k)++(.int .i64 l[k].1 :: .int .i64 l[k].2::Zt (l.drop (k+1))):=by
  conv=>lhs;rw[e]
  rw[ZBZ,ZA1]
 rw[e2];constructor
 ·rw[List.getElem?_append_right (by omega)];simp[hl]
 ·rw[List.getElem?_append_right (by omega)];simp[hl]
def ZLE (w:World) (g cap:Nat) (e:TypeId) (xs:List Vx):Prop :=
 ∃tl:List Value,w.heap[g]?=some (.cells (Zt xs++tl).toArray e (0,0))/\xs.length≤cap/\cap≤maxLen/\(Zt xs++tl).length=cap*2
abbrev ZS8 (g cap:Nat) (xs:List Vx):Value:=.slice (some ⟨g,0,none⟩) xs.length cap
theorem ZH7 {e:TypeId} {I:Nat->Prop} {w:World} {g cap:Nat} {xs:List Vx}:OwnK 0 e 2 RV I w (ZS8 g cap xs) xs↔ZLE w g cap e xs:=by
 constructor
 ·rintro⟨us,h1,h2,h0,h3,h4⟩;have hus:=ZLs h1 h4;subst hus;obtain⟨hfl,hv⟩:=h3;rcases hv with ⟨hz,_⟩|⟨g',cap',cur,hv,hB,hg,hc1,hc2,hc3,hc4⟩
  ·cases hz
  ·cases hv;refine⟨cur.toList.drop (xs.length*2),?_,hc1,hc2,?_⟩
   ·have:Zt xs++cur.toList.drop (xs.length*2)=cur.toList:=by
     unfold Zt;rw[<- hc4,List.take_append_drop]
    rw[this];exact hg
   ·have:Zt xs++cur.toList.drop (xs.length*2)=cur.toList:=by
     unfold Zt;rw[<- hc4,List.take_append_drop]
    rw[this];simpa using hc3
 ·rintro⟨tl,hg,hc1,hc2,hc3⟩;refine⟨xs.map ZCq,by simp,fun u hu=>?_,by decide,⟨?_,.inr ⟨g,cap,_,rfl,Nat.zero_le _,hg,hc1,hc2,by simpa using hc3,?_⟩⟩,fun k h h'=>?_⟩
  ·obtain⟨y,_,rfl⟩:=List.mem_map.1 hu;exact⟨rfl,by simp[ZCq,Value.oneCell']⟩
  ·exact Z1 xs
  ·show(Zt xs++tl).take (xs.length*2)=Zt xs;rw[<- Z1 xs,List.take_left'];rfl
  ·show Value.agg _=_;rw[List.getElem_map];rfl
theorem ZC6 {g:Nat} {e:TypeId} {fz:Nat × Nat}:∀(vs M A C:List Value) (w:World),M.length=vs.length->w.heap[g]?=some (.cells (A++M++C).toArray e fz)->(w.setCells g A.length vs).heap[g]?=some (.cells (A++vs++C).toArray e fz)
 | [],M,A,C,w,h,hg=>by
  have:M=[]:=List.eq_nil_of_length_eq_zero (by simpa using h);subst this;exact hg
 | v::r,[],A,C,w,h,hg=>by simp at h
 | v::r,m::M,A,C,w,h,hg=>by
  have hg':(w.setCell ⟨g,A.length,none⟩ v).heap[g]?=some (.cells ((A++[v])++M++C).toArray e fz):=by
   simp only[World.setCell,Array.getElem?_modify,if_true,hg,Option.map_some];simp
  have:=ZC6 r M (A++[v]) C _ (by simpa using h) hg';rw[World.setCells];have e1:(A++[v]).length=A.length+1:=by simp
  rw[e1] at this;rw[this];simp
theorem ZQD {w:World} {g cap:Nat} {e:TypeId} {xs:List Vx} (h:ZLE w g cap e xs) (k:Nat) (ys:List Vx) (hk:k+ys.length≤xs.length) :
  ZLE (w.setCells g (k*2) (Zt ys)) g cap e (xs.take k++ys++xs.drop (k+ys.length)):=by
 obtain⟨tl,hg,hc1,hc2,hc3⟩:=h;have e1:xs=xs.take k++(xs.drop k).take ys.length++xs.drop (k+ys.length):=by
  rw[List.append_assoc,<- List.drop_drop,List.take_append_drop,List.take_append_drop]
 have hA:(Zt (xs.take k)).length=k*2:=by rw[Z1,List.length_take];congr 1;omega
 have hM:(Zt ((xs.drop k).take ys.length)).length=(Zt ys).length:=by rw[Z1,Z1,List.length_take,List.length_drop];congr 1;omega
 have e2:Zt xs++tl=Zt (xs.take k)++Zt ((xs.drop k).take ys.length)++(Zt (xs.drop (k+ys.length))++tl):=by
  conv=>lhs;rw[e1]
  rw[ZBZ,ZBZ];simp
 rw[e2] at hg;have:=ZC6 _ _ _ _ w hM hg;rw[hA] at this;have hlen:(xs.take k++ys++xs.drop (k+ys.length)).length=xs.length:=by simp;omega
 refine⟨tl,?_,by omega,hc2,?_⟩
 ·rw[this,ZBZ,ZBZ];simp
 ·rw[List.length_append,Z1] at hc3 ⊢;rw[hlen];exact hc3
theorem ZQC {w:World} {g o:Nat} {vs:List Value}:w.grownBy (w.setCells g o vs) (some g):=by
 refine⟨World.os_setCells w g o vs,?_,World.output_setCells w g o vs,?_,fun k hk hne=>World.heap_setCells_other w g o vs hk fun e=>hne (by rw[e])⟩
 ·revert o w
  induction vs with
  | nil=>intros;rfl
  | cons v r ih=>intro w o;rw[World.setCells];exact ih
 ·revert o w
  induction vs with
  | nil=>intros;exact Nat.le_refl _
  | cons v r ih =>
   intro w o;rw[World.setCells];refine Nat.le_trans ?_ ih;simp[World.setCell]
theorem ZI8 {w:World} {g cap:Nat} {e:TypeId} {xs:List Vx} (h:ZLE w g cap e xs) (j:Nat) (hj:j<xs.length*2):w.cell? ⟨g,j,none⟩=(Zt xs)[j]?/\w.frozen? ⟨g,j,none⟩=false:=by
 obtain⟨tl,hg,_⟩:=h;refine⟨?_,by simp[World.frozen?,hg]⟩;simp only[World.cell?,hg];simp only[Option.isSome_none,Bool.false_eq_true,if_false];rw[List.getElem?_toArray,List.getElem?_append_left (by rw[Z1];exact hj)]
theorem ZHM {w:World} {g cap:Nat} {e:TypeId} {xs:List Vx} (h:ZLE w g cap e xs) (o n:Nat) (hj:o+n≤xs.length*2):w.there g o n:=fun j hjn=>by
 have:=ZI8 h (o+j) (by omega);refine⟨?_,this.2⟩;rw[this.1,List.getElem?_eq_getElem (by rw[Z1];omega)];rfl
section
variable {P:Program} {ops:Array Oper} {hp:List HObj} {o:Oper} {fr:List Dat} {d:Dat} {Q:Z5} {rest:List Oper}
variable {dst:Option Tmp} {ty:TypeId} {ps:String} {af:Array Edge} {g:Option (Nat × Bool)} {b cap:Nat} {e t T:TypeId} {xs:List Vx} {bytes:Nat} {z:Value} {ag:Bool}
abbrev hV (b N cap:Nat) (e:TypeId) (xs:List Vx):HObj:=Z0 (.slice (some ⟨b,0,none⟩) N cap) e 2 RV xs
theorem ZEY {I:Nat->Prop} {w:World} {N:Nat}:(hV b N cap e xs).ok I w↔N=xs.length/\ZLE w b cap e xs:=by
 constructor
 ·intro h;have hN:N=xs.length:=by
   obtain⟨us,h1,h2,h0,⟨_,h3⟩,h4⟩:=h;rcases h3 with ⟨hz,_⟩|⟨g,cap,cur,hv,_⟩
   ·cases hz
   ·cases hv;rfl
  subst hN;exact⟨rfl,ZH7.1 h⟩
 ·rintro⟨rfl,h⟩;exact ZH7.2 h
theorem ZRD {c:Code} {v:Value} (hne:0<xs.length) (h:∀b cap,v=ZS8 b cap xs->xs.length≤cap->cap≤maxLen->WC P Q c fr (Z0 v e 2 RV xs::hp)):WC P Q c fr (Z0 v e 2 RV xs::hp):=WC.of fun P0 B w0 w a hh hf=>by
 obtain⟨us,h1,h2,h0,⟨_,h3⟩,h4⟩:=hh.ok (Z0 v e 2 RV xs) (by simp);rcases h3 with ⟨_,hz⟩|⟨g,cap,cur,hv,hB,hg,hc1,hc2,_⟩
 ·omega
 ·exact(h g cap hv hc1 hc2).on hh hf
theorem ZJa {x i:Operand} {n m off k:Nat} {j:Int} (E:ElT P t e 2 z bytes ag) (hx:OpD fr x (dX (.slice (some ⟨b,off,none⟩) n m))) (hi:OpD fr i (dI j)) (hj:j=(k:Int)) (hk:k<n) :
  SY P ops hp ⟨dst,.indexAddr t x i,ty,ps,af,g⟩ fr (dX (.pointer (some ⟨b,off+k*2,none⟩))):=SY.val fun {I w a} ho=>by
 have h1:a.eval x=_:=hx.get (by simp[Op.operands]) ho;have h2:a.eval i=_:=hi.get (by simp[Op.operands]) ho;refine⟨_,?_,rfl⟩;unfold execOp;simp only[h1,h2,hj,Sem.run_bind,ZBP (w:=w) E b off n m k .i64 hk,Result.andThen_ok,Sem.run_pure]
theorem ZGC {x:Operand} {j k:Nat} (T':TyI P T 2 true) (hx:OpD fr x (dX (.pointer (some ⟨b,j,none⟩)))) {N:Nat} (hm:hV b N cap e xs∈hp) (hj:j=k*2) (hk:k<xs.length) :
  SY P ops hp ⟨dst,.load T x,ty,ps,af,g⟩ fr (dS RV xs[k]):=ZAG fun {P0 B w0 w a} hh ho=>by
 have h1:a.eval x=_:=hx.get (by simp[Op.operands]) ho;have hrow:=(ZEY.1 (hh.ok _ hm)).2;subst hj;have hc:Cells (fun _=>True) w b (k*2) 2 true (.agg (ZCq xs[k]).toArray):=by
  refine⟨trivial,ZCq xs[k],rfl,by decide,by simp[ZCq,Value.oneCell'],fun i c hc=>?_,rfl⟩;have hi:i<2:=(List.getElem?_eq_some_iff.1 hc).1;have hcell:=(ZI8 hrow (k*2+i) (by omega)).1;rw[hcell]
  match i,hi,hc with
  | 0,_,hc=>cases hc;exact(ZG4 hk).1
  | 1,_,hc=>cases hc;exact(ZG4 hk).2
 refine⟨_,w,?_,Ext.refl _,rfl⟩;unfold execOp;simp only[h1,Sem.run_bind,ZA8 T' hc,Result.andThen_ok,Sem.run_pure];rfl
theorem ZJk {o:Oper} {k N:Nat} {ys:List Vx} (hg:o.guard=none) (hk:k+ys.length≤xs.length) (hrun:∀ {I:Nat->Prop} {w:World} {a:Act},Fr I w a fr->ZLE w b cap e xs->∃out:Next,(out = .skip\/∃r,out = .value r)/\(execOp a.eval o).run P w = .ok out (w.setCells b (k*2) (Zt ys)))
  (h:WL P ops Q rest (ZC fr o.dst dA) (hV b N cap e (xs.take k++ys++xs.drop (k+ys.length))::hp)):WL P ops Q (o::rest) fr (hV b N cap e xs::hp):=by
 refine WL.of fun P0 B w0 w a hh hf=>?_;obtain⟨hN,hrow⟩:=ZEY.1 (hh.ok (hV b N cap e xs) (by simp));obtain⟨out,ho,hr⟩:=hrun hf hrow;have hgr:w.grownBy (w.setCells b (k*2) (Zt ys)) (hV b N cap e xs).blk:=ZQC;have hok:(hV b N cap e (xs.take k++ys++xs.drop (k+ys.length))).ok (fun j=>Imm P0 B (hV b N cap e xs::hp) j/\j<w.heap.size) (w.setCells b (k*2) (Zt ys)) :=
  ZEY.2 ⟨by rw[hN];simp;omega,ZQD hrow k ys hk⟩
 refine wpList_plain hg fun K hK=>?_;unfold Oper.wp;rw[hr];have fin:∀r:Value,K (a.put o.dst r) (w.setCells b (k*2) (Zt ys)):=fun r=>hK _ _ (h.on (hh.write hgr (.inl rfl) hok) (Fr.put (hf.mono fun _ _ hd=>Ze (o':=hV b N cap e (xs.take k++ys++xs.drop (k+ys.length))) hgr (.inl rfl) hd) (d:=dA) trivial));rcases ho with rfl|⟨r,rfl⟩
 ·exact fin undef
 ·exact fin r
theorem ZOg {p:Tmp} {x:Operand} {j k N:Nat} {y:Vx} (T':TyI P T 2 true) (hp0:OpD fr (.tmp p) (dX (.pointer (some ⟨b,j,none⟩)))) (hx:OpD fr x (dS RV y)) (hj:j=k*2) (hk:k<xs.length)
  (h:WL P ops Q rest (ZC fr dst dA) (hV b N cap e (xs.set k y)::hp)):WL P ops Q (⟨dst,.store T (.tmp p) x,ty,ps,af,none⟩::rest) fr (hV b N cap e xs::hp):=by
 refine ZJk (k:=k) (ys:=[y]) rfl (by simp;omega) (fun {I w a} hf hrow=>⟨.skip,.inl rfl,?_⟩) ?_
 ·have h1:a.eval (.tmp p)=_:=hp0.ev hf;have h2:a.eval x = .agg #[.int .i64 y.1,.int .i64 y.2]:=hx.ev hf;subst hj;have:=run_storeVar_mid (P:=P) w b (k*2) T #[.int .i64 y.1,.int .i64 y.2] (ZHM hrow _ _ (by simp;omega)) (by simpa using T'.size) (by simp[Value.oneCell']);unfold execOp;simp only[h1,h2,Instr.storeAt,Instr.sureAddr,Sem.run_bind,Sem.run_pure,Result.andThen_ok,this];rfl
 ·have e1:xs.take k++[y]++xs.drop (k+[y].length)=xs.set k y:=by
   rw[List.set_eq_take_append_cons_drop,if_pos hk];simp
  rw[e1];exact h
theorem ZOV {x:Operand} {off n m k N:Nat} (hu:P.underlying t=some (.slice e)) (hz:∀w,(zeroValue e).run P w = .ok (.agg #[.int .i64 0,.int .i64 0]) w) (hx:OpD fr x (dX (.slice (some ⟨b,off,none⟩) n m))) (hj:off=k*2) (hn:0<n) (hk:k+n=xs.length)
  (h:WL P ops Q rest (ZC fr dst dA) (hV b N cap e (xs.take k++List.replicate n (0,0))::hp)):WL P ops Q (⟨dst,.call { callee:=.builtin .clear,args:=#[x],argTypes:=#[t] },ty,ps,af,none⟩::rest) fr (hV b N cap e xs::hp):=by
 refine ZJk (k:=k) (ys:=List.replicate n (0,0)) rfl (by simp;omega) (fun {I w a} hf hrow=>⟨.value (.tuple #[]),.inr ⟨_,rfl⟩,?_⟩) ?_
 ·have h1:a.eval x=_:=hx.ev hf;subst hj;have hzc:(Builtin.zeroCells #[Value.int .i64 0,.int .i64 0] n).toList=Zt (List.replicate n (0,0)):=by
   have e1:Zt (List.replicate n (0,0))=List.replicate (n*2) (.int .i64 0):=by
    clear h hn hk hx h1;induction n with
    | zero=>rfl
    | succ n ih=>rw[List.replicate_succ,ZA1,ih,Nat.succ_mul,List.replicate_succ,List.replicate_succ]
   rw[e1];simp only[Builtin.zeroCells];apply List.ext_getElem
   ·simp
   ·intro i h1 h2;have:i % 2<2:=Nat.mod_lt _ (by decide);simp;rcases(by omega:i % 2=0\/i % 2=1) with h|h <;> simp[h]
  have hst:=run_storeCells_cells (P:=P) b (k*2) (Zt (List.replicate n (0,0))) 0 w (fun j hj=>by
   rw[Z1,List.length_replicate] at hj;exact((ZHM hrow (k*2) (n*2) (by omega)) j hj).1) (fun j hj=>by
   rw[Z1,List.length_replicate] at hj;exact((ZHM hrow (k*2) (n*2) (by omega)) j hj).2) (ZEy _)
  obtain⟨m',rfl⟩:∃m,n=m+1:=⟨n-1,by omega⟩;unfold execOp;simp[resolve,invoke,builtin,h1,Builtin.clear_,run_underlying hu,hz,Value.cells,hzc,hst]
 ·have e1:xs.take k++List.replicate n (0,0)++xs.drop (k+(List.replicate n ((0,0):Vx)).length)=xs.take k++List.replicate n (0,0):=by
   rw[List.length_replicate,hk,List.drop_length,List.append_nil]
  rw[e1];exact h
theorem SY.fromO {x y:Operand} {off n m l:Nat} {j:Int} (E:ElT P t e 2 z bytes ag) (hx:OpD fr x (dX (.slice (some ⟨b,off,none⟩) n m))) (hy:OpD fr y (dI j)) (hj:j=(l:Int)) (hl:l<n) (hm:n≤m) :
  SY P ops hp ⟨dst,.slice t x (some y) none none,ty,ps,af,g⟩ fr (dX (.slice (some ⟨b,off+l*2,none⟩) (n-l) (m-l))):=SY.val fun {I w a} ho=>by
 have h1:a.eval x=_:=hx.get (by simp[Op.operands]) ho;have h2:a.eval y=_:=hy.get (by simp[Op.operands]) ho;refine⟨_,?_,rfl⟩;have hr:=ZFF (w:=w) (ad:=some ⟨b,off,none⟩) (len:=n) (cap:=m) (lo:=some (.int .i64 (l:Int))) (hi:=none) (l:=l) (h:=n) E (.inr ⟨_,rfl⟩) (.inl ⟨rfl,rfl⟩) (by omega) hm;rw[if_neg (by omega)] at hr;unfold execOp;simp only[h1,h2,hj,Option.map_none,Option.map_some,Sem.run_bind,hr,Result.andThen_ok,Sem.run_pure];simp[Addr.add_lit]
theorem SY.uptoO {x y:Operand} {off n m l:Nat} {j:Int} (E:ElT P t e 2 z bytes ag) (hx:OpD fr x (dX (.slice (some ⟨b,off,none⟩) n m))) (hy:OpD fr y (dI j)) (hj:j=(l:Int)) (hl:l≤n) (hm:n≤m) (h0:0<m) :
  SY P ops hp ⟨dst,.slice t x none (some y) none,ty,ps,af,g⟩ fr (dX (.slice (some ⟨b,off,none⟩) l m)):=SY.val fun {I w a} ho=>by
 have h1:a.eval x=_:=hx.get (by simp[Op.operands]) ho;have h2:a.eval y=_:=hy.get (by simp[Op.operands]) ho;refine⟨_,?_,rfl⟩;have hr:=ZFF (w:=w) (ad:=some ⟨b,off,none⟩) (len:=n) (cap:=m) (lo:=none) (hi:=some (.int .i64 (l:Int))) (l:=0) (h:=l) E (.inl ⟨rfl,rfl⟩) (.inr ⟨_,rfl⟩) (by omega) (by omega);rw[if_neg (by omega)] at hr;unfold execOp;simp only[h1,h2,hj,Option.map_none,Option.map_some,Sem.run_bind,hr,Result.andThen_ok,Sem.run_pure];simp[Addr.add_lit]
end
end
section
open Go.RowKit
theorem ZDJ {ops:Array Oper} {o:Oper} {fr:List Dat} {gi:Nat} {pol:Bool} {t:Tmp} (hg:o.guard=some (gi,pol)) (ht:(ops[gi]?).bind (·.dst)=some t) (hf:fr[t]?=some (dX undef)):WantS ops o fr false:=WantS.mk fun I w a ho=>by
 have h1:a.tmps.getD t undef=undef:=ho.2 t (ZKH hg ht) _ hf;have hlt:t<a.tmps.size:=by rw[ho.1];exact(List.getElem?_eq_some_iff.1 hf).1
 have h2:a.tmps[t]?=some undef:=by
  rw[Array.getD_eq_getD_getElem?] at h1;rw[Array.getElem?_eq_getElem hlt] at h1 ⊢;simpa using h1
 simp[Region.wanted,hg,yielded,ht,h2,undef]
end
section
open Go.RowKit
section
variable {P:Program} {ops:Array Oper} {hp:List HObj} {fr:List Dat} {dst:Option Tmp} {ty:TypeId} {ps:String} {af:Array Edge} {g:Option (Nat × Bool)}
theorem ZII {x:Operand} {A T:TypeId} {u:Value} {n:Int} (hx:OpD fr x (dX u)) (hr:∀w,(convert A T u).run P w = .ok (.int .i64 n) w) :
  SY P ops hp ⟨dst,.convert A T x,ty,ps,af,g⟩ fr (dI n):=SY.val fun {I w a} ho=>by
 have h1:a.eval x=u:=hx.get (by simp[Op.operands]) ho;refine⟨.int .i64 n,?_,rfl⟩;unfold execOp;simp only[h1,Sem.run_bind,hr,Result.andThen_ok,Sem.run_pure]
end
end
end Go.Proofs.YtofkoleingbbpaaGreatDoor
namespace Go.Proofs.YtofkoleingbbpaaGreatDoor.I
section
open Go.RowKit
theorem ZE5 {P:Program} {o:Oper} {a:Act} {w:World} {K:Act->World->Prop} {Q:Exit->Act->World->Prop} (h:o.wp P a w K Q):o.wpIn Fence.wide 0 P a w K Q:=by
 refine⟨fun _ _=>trivial,?_⟩;show o.uponIn Fence.wide 0 P a K Q ((execOp a.eval o).run P w);unfold Oper.wp at h
 revert h
 generalize (execOp a.eval o).run P w=r;intro h;unfold Oper.upon at h;unfold Oper.uponIn;split at h
 ·exact h
 ·exact h
 ·exact h
 ·exact⟨fun h=>by simp[Fence.wide] at h,callsIn_wide.2 h⟩
 ·exact⟨fun h=>by simp[Fence.wide] at h,fun c cs _=>let ⟨v,w2,r,s⟩:=h c cs;⟨v,w2,r,stepsIn_wide.2 s⟩⟩
 ·exact h
 ·exact h.elim
theorem ZBe {P:Program} {ops:Array Oper} {Q:Exit->Act->World->Prop} {rest:List Oper} {o:Oper} {a:Act} {w:World} (hg:o.guard=none)
  (h:∀K:Act->World->Prop,(∀a w,wpListIn Fence.wide 0 P ops Q rest a w->K a w)->o.wp P a w K Q):wpListIn Fence.wide 0 P ops Q (o::rest) a w :=
 wpListIn_plain hg fun K hK=>ZE5 (h K hK)
end
section
open Go.RowKit
theorem ZCU {P:Program} {ops:Array Oper} {Q:Exit->Act->World->Prop} {rest:List Oper} {o:Oper} {a:Act} {w:World} (hg:o.guard=none) {v:Value} {w':World} (h:(execOp a.eval o).run P w = .ok (.value v) w') (hk:wpListIn Fence.wide 0 P ops Q rest (a.put o.dst v) w'):wpListIn Fence.wide 0 P ops Q (o::rest) a w :=
 ZBe hg fun K hK=>by unfold Oper.wp;rw[h];exact hK _ _ hk
open Go.RowKit



structure WL (P:Program) (ops:Array Oper) (Q:Z5) (rest:List Oper) (fr:List Dat) (hp:List HObj):Prop where
 of ::
 out:∀(P0:Nat->Prop) (B:Nat) (w0 w:World) (a:Act),Hp P0 B w0 hp w->Fr (Imm P0 B hp) w a fr->wpListIn Fence.wide 0 P ops (ZCr Q P0 B w0) rest a w
theorem WL.on {P:Program} {ops:Array Oper} {Q:Z5} {rest:List Oper} {fr:List Dat} {hp:List HObj} (h:WL P ops Q rest fr hp) {P0:Nat->Prop} {B:Nat} {w0 w:World} {a:Act} (hh:Hp P0 B w0 hp w) (hf:Fr (Imm P0 B hp) w a fr):wpListIn Fence.wide 0 P ops (ZCr Q P0 B w0) rest a w:=h.out _ _ _ _ _ hh hf
section
variable {P:Program} {ops:Array Oper} {hp:List HObj} {o:Oper} {fr fr':List Dat} {d:Dat} {Q:Z5} {rest:List Oper}
theorem WL.nil (h:Q .normal fr hp):WL P ops Q [] fr hp:=WL.of fun _ _ _ _ _ hh hf=>⟨fr,hp,h,hh,hf⟩
theorem ZF {P:Program} {ops:Array Oper} {hp:List HObj} {o:Oper} {fr:List Dat} {d:Dat} {Q:Z5} {rest:List Oper} (h:SYG P ops hp o fr d) (k:WL P ops Q rest (ZC fr o.dst d) hp):WL P ops Q (o::rest) fr hp:=by
 refine WL.of fun P0 B w0 w a hh hf=>?_;have:=h.step (Q:=ZCr Q P0 B w0) hh hf (K:=wpListIn Fence.wide 0 P ops (ZCr Q P0 B w0) rest) fun a' w' e hf'=>k.on (hh.ext e) hf';unfold wpListIn;split
 ·rename_i hw;rw[if_pos hw] at this;exact ZE5 this
 ·rename_i hw;rw[if_neg hw] at this;exact⟨fun _ _=>trivial,this⟩
theorem WL.op (hg:o.guard=none) (h:SY P ops hp o fr d) (k:WL P ops Q rest (ZC fr o.dst d) hp):WL P ops Q (o::rest) fr hp:=ZF (.inl ⟨Za hg,h⟩) k
theorem WL.weak (h:WL P ops Q rest fr' hp) (hl:fr.length=fr'.length) (k:∀(t:Nat) (d:Dat),fr'[t]?=some d->∃d0:Dat,fr[t]?=some d0/\d0.le d):WL P ops Q rest fr hp:=WL.of fun _ _ _ _ _ hh hf=>h.on hh (hf.weak hl k)

theorem WC.region {id:Nat} {l:List Oper} (h:WL P l.toArray Q l fr hp):WC P Q (.region id l.toArray false) fr hp:=WC.of fun _ _ _ _ _ hh hf=>wpIn_wide.1 (wpIn_region_lit (n:=0) (h.on hh hf))
end


open Go.RowKit

section
variable {P:Program} {ops:Array Oper} {hp:List HObj} {o:Oper} {fr:List Dat} {d:Dat} {Q:Z5} {rest:List Oper}
variable {dst:Option Tmp} {ty:TypeId} {ps:String} {af:Array Edge} {g:Option (Nat × Bool)}

theorem WL.drop {o:HObj} (h:WL P ops Q rest fr hp):WL P ops Q rest fr (o::hp):=WL.of fun _ _ _ _ _ hh hf=>h.on hh.drop (hf.mono fun d _ hd=>d.weak hd Imm.sub)

theorem WL.perm {hp':List HObj} (hp1:hp.Perm hp') (h:WL P ops Q rest fr hp'):WL P ops Q rest fr hp:=WL.of fun _ _ _ _ _ hh hf =>
 let ⟨h1,h2⟩:=hh.perm hp1
 h.on h1 (hf.mono fun d _ hd=>d.weak hd fun k hk=>(h2 k).1 hk)
theorem WL.id (h:WL P ops Q rest fr hp):WL P ops Q rest fr hp:=h

end


open Go.RowKit

section
variable {P:Program} {ops:Array Oper} {hp:List HObj} {o:Oper} {fr:List Dat} {d:Dat} {Q:Z5} {rest:List Oper}
variable {dst:Option Tmp} {ty:TypeId} {ps:String} {af:Array Edge} {g:Option (Nat × Bool)}

theorem WL.alloc {T:TypeId} {n:Nat} {agg:Bool} {z:Value} (hz:TyZ P T z) (hs:(dX z).Shape n agg)
  (h:∀b,WL P ops Q rest (ZC fr dst (dX (.pointer (some ⟨b,0,none⟩)))) (Zm b T n agg (dX z)::hp)):WL P ops Q (⟨dst,.alloc T,ty,ps,af,none⟩::rest) fr hp:=by
 refine WL.of fun P0 B w0 w a hh hf=>?_;obtain⟨cs,k1,k0,k2,k3,k4⟩:=hs (fun _=>True) w z rfl;have hrun:(execOp a.eval ⟨dst,.alloc T,ty,ps,af,none⟩).run P w = .ok (.value (.pointer (some ⟨w.heap.size,0,none⟩))) (w.alloc (.cells cs.toArray T)):=by
  cases hq:P.info? T with
  | none=>have:=hz.out;simp[hq] at this
  | some i =>
   have hz':i.zero=some z:=by have:=hz.out;simpa[hq] using this
   unfold execOp;simp[Instr.alloc,zeroValue,typeInfo,hq,hz',newVar,newRow,k3]
 refine ZCU rfl hrun ?_;have hx:=Ext.of_alloc w (.cells cs.toArray T);have hb:∀k,(Zm w.heap.size T n agg (dX z)).blk=some k->w.heap.size≤k/\k<(w.alloc (.cells cs.toArray T)).heap.size:=fun k hk=>by
  cases hk;exact⟨Nat.le_refl _,by simp⟩
 refine(h w.heap.size).on (hh.push hx hb ⟨cs,z,Zz w _,k1,k0,k2,k4,rfl⟩) ?_;exact Fr.put (hf.mono fun d _ hd=>ZAJ hx (fun k hk=>(hb k hk).1) hd) rfl

theorem ZC1 {x:Operand} {t b n:Nat} {T T2:TypeId} {agg:Bool} {d0:Dat} (hT:TyI P T n agg) (hp0:OpD fr (.tmp t) (dX (.pointer (some ⟨b,0,none⟩)))) (hx:OpD fr x d) (hs:d.Shape n agg)
  (h:WL P ops Q rest (ZC fr dst (dX undef)) (Zm b T2 n agg d::hp)):WL P ops Q (⟨dst,.store T (.tmp t) x,ty,ps,af,none⟩::rest) fr (Zm b T2 n agg d0::hp):=by
 refine WL.of fun P0 B w0 w a hh hf=>?_;obtain⟨cs,u,c1,c2,c0,c3,c4,c5⟩:=hh.ok (Zm b T2 n agg d0) (by simp);have h1:=hx.ev hf;obtain⟨cs',k1,k0,k2,k3,k4⟩:=hs _ _ _ h1;have h2:a.eval (.tmp t) = .pointer (some ⟨b,0,none⟩):=hp0.ev hf;have hr:=ZDG (u:=a.eval x) hT.size c1 c2 k1 k2 k3;have hrun:(execOp a.eval ⟨dst,.store T (.tmp t) x,ty,ps,af,none⟩).run P w = .ok .skip (w.setRow b cs'.toArray):=by
  unfold execOp;simp only[h2,Sem.run_bind,hr,Result.andThen_ok,Sem.run_pure]
 refine ZBe rfl fun K hK=>?_;unfold Oper.wp;rw[hrun];have hgr:w.grownBy (w.setRow b cs'.toArray) (Zm b T2 n agg d0).blk:=ZAM;have hok:(Zm b T2 n agg d).ok (fun k=>Imm P0 B (Zm b T2 n agg d0::hp) k/\k<w.heap.size) (w.setRow b cs'.toArray) :=
  ⟨cs',a.eval x,setRow_heap w b _ _ _ _ c1,k1,k0,k2,k4,d.grown (d.bound h1) hgr (fun k hk hc=>hc.1.2 _ (by simp) hk)⟩
 exact hK _ _ (h.on (hh.write hgr (.inl rfl) hok) (Fr.put (hf.mono fun _ _ hd=>Ze (o':=Zm b T2 n agg d) hgr (.inl rfl) hd) (d:=dX undef) rfl))
end


open Go.RowKit

section
variable {P:Program} {ops:Array Oper} {hp:List HObj} {o:Oper} {fr:List Dat} {d:Dat} {Q:Z5} {rest:List Oper}
variable {dst:Option Tmp} {ty:TypeId} {ps:String} {af:Array Edge} {g:Option (Nat × Bool)}
variable {t e:TypeId} {n bytes:Nat} {z:Value} {ag:Bool}

theorem ZA0 {a:Act} {w w':World} {s y:Operand} {v yv v':Value} {dst2:Option Tmp} {ty2:TypeId} {Qa:Exit->Act->World->Prop} (hs:a.eval s=v) (hy:a.eval y=yv) (hr:(Builtin.append_ #[t,t] ty2 #[v,yv]).run P w = .ok v' w') (hk:wpListIn Fence.wide 0 P ops Qa rest (a.put dst2 v') w') :
  wpListIn Fence.wide 0 P ops Qa (⟨dst2,.call { callee:=.builtin .append,args:=#[s,y],argTypes:=#[t,t] },ty2,ps,af,none⟩::rest) a w:=by
 refine ZCU rfl (v:=v') (w':=w') ?_ hk;unfold execOp;simp only[resolve,invoke,builtin,List.map_toArray,List.map_cons,List.map_nil,hs,hy,Sem.run_bind,Sem.run_pure,Result.andThen_ok,hr]

theorem Zl {s x:Operand} {k:Tmp} {dst2:Option Tmp} {ty2:TypeId} {ps2:String} {af2:Array Edge} (E:ElT P t e 1 z bytes ag) {α:Type} {R:Rel α} {_gR:Good R} {v:Value} {xs:List α} {y:α} (hs:OpD fr s (dX v)) (hx:OpD fr x (dS R y)) (hsh:∀a,(dS R a).Shape 1 false) (hne:s ≠ .tmp k) (hkl:k<fr.length) (hby:0<bytes)
  (hlen:(xs.length+1)*bytes≤140737488355328) (h:∀v',WL P ops Q rest (ZC (fr.set k dA) dst2 (dX v')) (Zk v' e R (xs++[y])::hp)) :
  WL P ops Q (⟨some k,.buildSlice t 1 #[(0,x)],ty,ps,af,none⟩::⟨dst2,.call { callee:=.builtin .append,args:=#[s,.tmp k],argTypes:=#[t,t] },ty2,ps2,af2,none⟩::rest) fr (Zk v e R xs::hp):=by
 refine WL.of fun P0 B w0 w a hh hf=>?_;have hxr:=hx.ev hf;obtain⟨cs,k1,k0,k2,k3,k4⟩:=hsh y _ _ _ hxr;simp only[Bool.false_eq_true,if_false] at k4;subst k4;have hb:=ZBT (w:=w) E (us:=[a.eval x]) (css:=[[a.eval x]]) rfl (fun i u cs' hu hcs=>by
  cases i with
  | zero=>cases hu;cases hcs;exact⟨k3,k1⟩
  | succ i=>simp at hu) (by simp)
 refine ZCU rfl (v:=.slice (some ⟨w.heap.size,0,none⟩) 1 1) (w':=w.alloc (.cells [[a.eval x]].flatten.toArray e)) ?_ ?_
 ·unfold execOp;simp only[List.map_toArray,List.map_cons,List.map_nil,Sem.run_bind];have:(Instr.buildSlice t 1 #[(0,a.eval x)]).run P w = .ok (.slice (some ⟨w.heap.size,0,none⟩) 1 1) (w.alloc (.cells [[a.eval x]].flatten.toArray e)):=hb;simp only[this,Result.andThen_ok,Sem.run_pure]
 have hxe:=Ext.of_alloc w (.cells [[a.eval x]].flatten.toArray e);have hh1:=hh.ext hxe;have hf1:Fr (Imm P0 B (Zk v e R xs::hp)) (w.alloc (.cells [[a.eval x]].flatten.toArray e)) (a.put (some k) (.slice (some ⟨w.heap.size,0,none⟩) 1 1)) (fr.set k dA):=Fr.put (x:=some k) (hf.ext hxe) (d:=dA) trivial;have hm:xs.length+[y].length≤maxLen:=by
  have:(xs.length+1)*1≤(xs.length+1)*bytes:=Nat.mul_le_mul_left _ hby;simp only[maxLen,List.length_cons,List.length_nil];omega
 obtain⟨v',w',hr,r1,r2,r3⟩:=ZC3 (ty:=ty2) E hh1 (ad:=⟨w.heap.size,0,none⟩) (c:=1) (ys:=[y]) (news:=[a.eval x]) rfl (fun j u hu=>by
   rw[Addr.add_lit,cell_of_row _ _ _ _ _ _ (Zz w _),Nat.zero_add];simpa using hu) k2 (fun j h1 h2=>by
   have hj:j=0:=by simp at h1;omega
   subst hj;exact Good.ext (R:=R) hxr hxe) (by simpa using hlen) hm
 refine ZA0 (v:=v) (yv:=.slice (some ⟨w.heap.size,0,none⟩) 1 1) ?_ (ZCA (by rw[hf.size];exact hkl)) hr ?_
 ·rw[ZDV hne];exact hs.ev hf
 ·exact(h v').on r1 (Fr.put (x:=dst2) (hf1.mono fun d _ hd=>Ze (o:=Zk v e R xs) (o':=Zk v' e R (xs++[y])) r2 r3 hd) (d:=dX v') rfl)

theorem WL.app1 {s y:Operand} {dst2:Option Tmp} {ty2:TypeId} {ps2:String} {af2:Array Edge} (E:ElT P t e 1 z bytes ag) {α:Type} {R:Rel α} {_gR:Good R} {v:Value} {xs ys:List α} (hs:OpD fr s (dX v)) (hy:OpD fr y (dS (Arr R) ys)) (hby:0<bytes)
  (hlen:(xs.length+ys.length)*bytes≤140737488355328) (h:∀v',WL P ops Q rest (ZC fr dst2 (dX v')) (Zk v' e R (xs++ys)::hp)) :
  WL P ops Q (⟨dst2,.call { callee:=.builtin .append,args:=#[s,y],argTypes:=#[t,t] },ty2,ps2,af2,none⟩::rest) fr (Zk v e R xs::hp):=by
 refine WL.of fun P0 B w0 w a hh hf=>?_;obtain⟨ad,cap,hv,c1,c2,c3⟩:=(hy.ev hf:Arr R _ _ _ _);have hm:xs.length+ys.length≤maxLen:=by
  have:(xs.length+ys.length)*1≤(xs.length+ys.length)*bytes:=Nat.mul_le_mul_left _ hby;simp only[maxLen];omega
 cases ad with
 | none =>
  have hy0:ys=[]:=by
   cases ys with
   | nil=>rfl
   | cons y ys=>obtain⟨_,_,_,_,_,hc,_⟩:=c3 0 (by simp);cases hc
  subst hy0;obtain⟨us,_,ho,_⟩:=hh.ok (Zk v e R xs) (by simp);refine ZA0 (v:=v) (yv:=_) (hs.ev hf) hv (ZBc E ho cap) ?_;have:=h v;rw[List.append_nil] at this;exact this.on hh (Fr.put hf rfl)
 | some ad =>
  have hch:∀k:Nat,∃u:Value,∀h:k<ys.length,w.cell? (ad.add k)=some u/\u.oneCell'=true/\R (Imm P0 B (Zk v e R xs::hp)) w u ys[k]:=fun k=>by
   by_cases hk:k<ys.length
   ·obtain⟨u,b,off,r1,r2,r3,r4,r5⟩:=c3 k hk;cases r3;exact⟨u,fun _=>⟨by rw[Addr.add_lit];exact r5,r2,r1⟩⟩
   ·exact⟨undef,fun h=>absurd h hk⟩
  obtain⟨f,hfch⟩:=Classical.axiomOfChoice hch;obtain⟨v',w',hr,r1,r2,r3⟩:=ZC3 (ty:=ty2) E hh (ad:=ad) (c:=cap) (ys:=ys) (news:=(List.range ys.length).map f) (by simp) (fun j u hu=>by
    obtain⟨hjl,hju⟩:=List.getElem?_eq_some_iff.1 hu;simp at hjl hju;subst hju;exact(hfch j hjl).1) (fun u hu=>by
    simp only[List.mem_map,List.mem_range] at hu;obtain⟨j,hj,rfl⟩:=hu;exact(hfch j hj).2.1) (fun k h1 h2=>by
    simp only[List.getElem_map,List.getElem_range];exact(hfch k h2).2.2) hlen hm
  refine ZA0 (v:=v) (yv:=_) (hs.ev hf) hv hr ?_;exact(h v').on r1 (Fr.put (x:=dst2) (hf.mono fun d _ hd=>Ze (o:=Zk v e R xs) (o':=Zk v' e R (xs++ys)) r2 r3 hd) (d:=dX v') rfl)
theorem ZDR {α:Type} {R:Rel α} {_gR:Good R} {v:Value} {xs:List α} {s:Tmp} (hs:fr[s]?=some (dX v)) (h:WL P ops Q rest (fr.set s (dS (Arr R) xs)) hp):WL P ops Q rest fr (Zk v e R xs::hp):=WL.of fun _ _ _ _ _ hh hf=>h.on hh.drop (ZCN hf hs (d:=dS (Arr R) xs) (ZD6 hh))
theorem ZIP {α:Type} {R:Rel α} {_gR:Good R} {v:Value} {xs:List α} {s:Tmp} (hs:fr[s]?=some (dX v)) (h:WL P ops Q rest (fr.set s (dS (ArrK n R) xs)) hp):WL P ops Q rest fr (Z0 v e n R xs::hp):=WL.of fun _ _ _ _ _ hh hf=>h.on hh.drop (ZCN hf hs (d:=dS (ArrK n R) xs) (ZEp hh))
end


open Go.RowKit

section
variable {P:Program} {ops:Array Oper} {hp:List HObj} {md:Region.Mode} {w:World}

theorem ZEZ {P:Program} {md:Region.Mode} {ops:Array Oper} {Q':Exit->Act->World->Prop}:∀(l:List Oper) (k:Nat) (listed:Array Bool) (a:Act) (w:World),(∀j,l[j]?=ops[k+j]?) ->
  Region.seqB md ops l.length k listed=true->wpListIn Fence.wide 0 P ops Q' l a w->wpAnyIn Fence.wide 0 P md ops Q' l.length listed a w
 | [],_,_,_,_,_,hB,h=>⟨by simpa[Region.seqB] using hB,h⟩
 | o::l,k,listed,a,w,hl,hB,h=>by
  have h0:ops[k]?=some o:=by simpa using(hl 0).symm
  simp only[List.length_cons,Region.seqB,Bool.and_eq_true,decide_eq_true_eq] at hB;refine⟨fun h1=>(by rw[hB.1] at h1;cases h1),fun i hi=>?_⟩;rw[hB.1] at hi;have hik:i=k:=by simpa using hi
  subst hik;have hw:wpOpIn Fence.wide 0 P ops Q' i (wpListIn Fence.wide 0 P ops Q' l) a w:=by unfold wpOpIn;simp only[h0];exact h
  exact wpOpIn_mono (fun a' w' h'=>ZEZ l (i+1) _ a' w' (fun j=>by have:=hl (j+1);simpa[Nat.add_assoc,Nat.add_comm 1 j] using this) hB.2 h') hw
end



open Go.RowKit


open Go.RowKit

open Go.RowKit

open Go.RowKit


end
end Go.Proofs.YtofkoleingbbpaaGreatDoor.I
