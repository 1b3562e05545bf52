/- Part 1: walks by contracts, and plain laws. -/
import Derived.Test.YtofkoleingbbpaaGreatDoorXa11
set_option linter.unusedVariables false
set_option linter.unusedSimpArgs false
set_option linter.unusedSectionVars false
set_option maxRecDepth 100000
set_option maxHeartbeats 64000000
namespace Go.Proofs.YtofkoleingbbpaaGreatDoor
section
open Go.RowKit

section
variable {P:Program} {ops:Array Oper} {hp:List HObj} {o:Oper} {fr:List Dat} {d:Dat} {Q:Z5} {rest:List Oper}
variable {dst:Option Tmp} {ty:TypeId} {ps:String} {af:Array Edge} {g:Option (Nat × Bool)}

section
variable {p:Prop} {_ip:Decidable p} {b:Bool} {gi:Nat} {pol:Bool} {t:Tmp} {K:List Dat->Prop}
theorem ZU (hg:o.guard=some (gi,pol)) (ht:(ops[gi]?).bind (·.dst)=some t) (hf:fr[t]?=some (dB (!decide p))) (h1:¬ p->WD P ops hp K (o::rest) (fr.set t (dB true))) (h2:p->WD P ops hp K (o::rest) (fr.set t (dB false))):WD P ops hp K (o::rest) fr :=
 ZS hg ht hf (fun h=>h1 (by simpa using h)) (fun h=>h2 (by simpa using h))
end

theorem ZEo {α:Type} {R:Rel α} {_gR:Good R} {x y:α} (h:x=y):FinD hp (dS R x) (dS R y):=FinD.le (ZLb (by rw[h]))
end

end
section
open Go.RowKit

section
variable {P:Program} {ops:Array Oper} {hp:List HObj} {o:Oper} {fr:List Dat} {d:Dat} {Q:Z5} {rest:List Oper}
variable {dst:Option Tmp} {ty:TypeId} {ps:String} {af:Array Edge} {g:Option (Nat × Bool)}
variable {t e:TypeId} {n bytes:Nat} {z:Value} {ag:Bool}

theorem ZIN {c:Code} {α:Type} {R:Rel α} {_gR:Good R} {v:Value} {xs:List α} {s:Tmp} (hs:fr[s]?=some (dX v)) (h:WC P Q c (fr.set s (dS (ArrK n R) xs)) hp):WC P Q c fr (Z0 v e n R xs::hp):=WC.of fun _ _ _ _ _ hh hf=>h.on hh.drop (ZCN hf hs (d:=dS (ArrK n R) xs) (ZEp hh))

end

end
section
open Go.RowKit

section
variable {P:Program} {ops:Array Oper} {hp:List HObj} {md:Region.Mode} {w:World}

end

def ZGz {α:Type} (n:Nat) (R:Rel α) [Good R] (xs:List α):Dat where
 rd:=fun I w v=>ArrK n R I w v xs/\∃a,v = .slice (some a) xs.length xs.length
 weak:=fun⟨h,k⟩ q=>⟨Good.weak (R:=ArrK n R) h q,k⟩
 move:=fun⟨h,k⟩ q=>⟨Good.move (R:=ArrK n R) h q,k⟩
 bound:=fun⟨h,k⟩=>⟨Good.bound (R:=ArrK n R) h,k⟩
section
variable {P:Program} {ops:Array Oper} {hp:List HObj} {o:Oper} {fr:List Dat} {d:Dat} {Q:Z5} {rest:List Oper}
variable {dst:Option Tmp} {ty:TypeId} {ps:String} {af:Array Edge} {g:Option (Nat × Bool)}
variable {t e:TypeId} {n bytes:Nat} {z:Value} {ag:Bool}
theorem SY.fullK (E:ElT P t e n z bytes ag) {α:Type} {R:Rel α} {_gR:Good R} {len:Nat} {parts:Array (Nat × Operand)} {xs:List Operand} {els:List α} (hparts:parts.toList=(xs.zipIdx).map (fun p=>(p.2,p.1))) (hx:ElsD fr R xs els) (hl:len=els.length) (hn:0<n) (hs:∀a,(dS R a).Shape n true) (hsm:els.length*n≤16777216) :
  SY P ops hp ⟨dst,.buildSlice t len parts,ty,ps,af,g⟩ fr (ZGz n R els):=ZAG fun {P0 B w0 w a} hh ho=>by
 obtain⟨css,hr,hcl,hcn,hel⟩:=ZBS E hx hl hparts hs hsm hh ho;refine⟨_,_,hr,Ext.of_alloc _ _,⟨some ⟨w.heap.size,0,none⟩,els.length,rfl,Nat.le_refl _,by simp only[maxLen];have:els.length*1≤els.length*n:=Nat.mul_le_mul_left _ hn;omega,hn,fun k hk=>?_⟩,_,rfl⟩;have hkc:k<css.length:=by omega
 obtain⟨u,hu,hR⟩:=hel k css[k] els[k] (List.getElem?_eq_getElem hkc) (List.getElem?_eq_getElem hk);simp only[if_true] at hu;subst hu;have hm:=hcn css[k] (List.getElem_mem hkc);refine⟨css[k],w.heap.size,0,Good.ext (R:=R) hR (Ext.of_alloc _ _),hm.1,hm.2,rfl,hh.fresh (Nat.le_refl _),fun j c hc=>?_⟩;rw[cell_of_row _ _ _ _ _ _ (Zz w _),Nat.zero_add];simpa using Zu (fun u hu=>(hcn u hu).1) hkc hc
theorem ZC4 {α:Type} {R:Rel α} {I:Nat->Prop} {w:World} {a:Addr} {cap:Nat} {xs:List α} (h:ArrK n R I w (.slice (some a) xs.length cap) xs):0<n/\xs.length≤cap/\∃news:List (List Value),news.length=xs.length/\(∀u∈news,u.length=n/\∀c∈u,c.oneCell'=true)/\(∀j u,news.flatten[j]?=some u->w.cell? (a.add j)=some u) /\
  ∀(k:Nat) (h:k<news.length) (h':k<xs.length),R I w (.agg news[k].toArray) xs[k]:=by
 obtain⟨ad,cap',hv,c1,c2,c0,c3⟩:=h;cases hv;have hch:∀k:Nat,∃cs:List Value,∀h:k<xs.length,cs.length=n/\(∀c∈cs,c.oneCell'=true)/\(∀j c,cs[j]?=some c->w.cell? (a.add (k*n+j))=some c)/\R I w (.agg cs.toArray) xs[k]:=fun k=>by
  by_cases hk:k<xs.length
  ·obtain⟨cs,b,off,r1,r2,r3,r4,r5,r6⟩:=c3 k hk;cases r4;exact⟨cs,fun _=>⟨r2,r3,fun j c hc=>by rw[Addr.add_lit,<- Nat.add_assoc];exact r6 j c hc,r1⟩⟩
  ·exact⟨[],fun h=>absurd h hk⟩
 obtain⟨f,hfch⟩:=Classical.axiomOfChoice hch;have hmem:∀u∈(List.range xs.length).map f,∃j,j<xs.length/\u=f j:=fun u hu=>by
  simp only[List.mem_map,List.mem_range] at hu;obtain⟨j,hj,rfl⟩:=hu;exact⟨j,hj,rfl⟩
 refine⟨c0,c1,(List.range xs.length).map f,by simp,fun u hu=>by obtain⟨j,hj,rfl⟩:=hmem u hu;exact⟨(hfch j hj).1,(hfch j hj).2.1⟩,fun j u hu=>?_,fun k h1 h2=>by
  simp only[List.getElem_map,List.getElem_range];exact(hfch k h2).2.2.2⟩
 have hlt:=(List.getElem?_eq_some_iff.1 hu).1;have hfl:((List.range xs.length).map f).flatten.length=xs.length*n:=by
  rw[ZAw (n:=n) fun u hu=>by obtain⟨j,hj,rfl⟩:=hmem u hu;exact(hfch j hj).1];simp
 rw[hfl] at hlt;have hq:j / n<xs.length:=(Nat.div_lt_iff_lt_mul c0).2 hlt;have hr:j % n<n:=Nat.mod_lt _ c0;have hj:j=(j / n)*n+j % n:=by rw[Nat.mul_comm];exact(Nat.div_add_mod j n).symm
 have hlen':=(hfch (j / n) hq).1;have hg:=Zu (us:=(List.range xs.length).map f) (n:=n) (k:=j / n) (j:=j % n) (fun u hu=>by obtain⟨j,hj,rfl⟩:=hmem u hu;exact(hfch j hj).1) (by simpa using hq) (c:=(f (j / n))[j % n]'(by omega)) (by simp);rw[<- hj,hu] at hg;cases hg;have:=(hfch (j / n) hq).2.2.1 (j % n) _ (List.getElem?_eq_getElem (by omega));rw[<- hj] at this;exact this
theorem ZCJ {s y:Operand} (E:ElT P t e n z bytes ag) {α:Type} {R:Rel α} {_gR:Good R} {xs ys:List α} (hs:OpD fr s (ZGz n R xs)) (hy:OpD fr y (dS (ArrK n R) ys)) (hby:0<bytes) (hlen:(xs.length+ys.length)*bytes≤140737488355328) :
  SY P ops hp ⟨dst,.call { callee:=.builtin .append,args:=#[s,y],argTypes:=#[t,t] },ty,ps,af,g⟩ fr (dS (ArrK n R) (xs++ys)):=ZAG fun {P0 B w0 w a} hh ho=>by
 obtain⟨h1,a1,hv1⟩:=hs.get (by simp[Op.operands,Call.operands]) ho;have h2:ArrK n R _ w (a.eval y) ys:=hy.get (by simp[Op.operands,Call.operands]) ho;obtain⟨i,hi,hz,hsz,hb⟩:=info_parts E.info;have hm:xs.length+ys.length≤maxLen:=by
  have:(xs.length+ys.length)*1≤(xs.length+ys.length)*bytes:=Nat.mul_le_mul_left _ hby;simp only[maxLen];omega
 have h1':=h1;rw[hv1] at h1';have fin:∀v' w',(Builtin.append_ #[t,t] ty #[a.eval s,a.eval y]).run P w = .ok v' w'->Ext w w'->ArrK n R (Imm P0 B hp) w' v' (xs++ys)->∃v w',(execOp a.eval ⟨dst,.call { callee:=.builtin .append,args:=#[s,y],argTypes:=#[t,t] },ty,ps,af,g⟩).run P w = .ok (.value v) w'/\Ext w w'/\(dS (ArrK n R) (xs++ys)).rd (Imm P0 B hp) w' v:=by
  intro v' w' hr hx hd;refine⟨v',w',?_,hx,hd⟩;unfold execOp;simp only[resolve,invoke,builtin,List.map_toArray,List.map_cons,List.map_nil,Sem.run_bind,Sem.run_pure,Result.andThen_ok,hr]
 have h2':=h2;obtain⟨ad2,cap2,hv2,q1,q2,q0,q3⟩:=h2;by_cases h0:ys=[]
 ·subst h0;have hsrc:Src P i.size t (a.eval y) 0 [] w:=by
   rw[hv2];cases ad2 with
   | none=>exact Src.ofNil w E.und cap2
   | some ad2=>exact Src.ofSlice w E.und ad2 0 cap2 [] (by simp) (fun j u h=>by simp at h) (fun u h=>by simp at h)
  refine fin (a.eval s) w ?_ (Ext.refl _) (by rw[List.append_nil];exact h1);have:=run_append_nothing (P:=P) w t t ty e i E.und hi (some a1) xs.length xs.length (Nat.le_refl _) (a.eval y) hsrc;rw[hv1];exact this
 ·cases ad2 with
  | none =>
   obtain⟨_,_,_,_,_,_,hc,_⟩:=q3 0 (List.length_pos_iff.2 h0);cases hc
  | some ad2 =>
   rw[hv2] at h2';obtain⟨n0,_,o1,ol,os,oc,oe⟩:=ZC4 h1';obtain⟨_,_,n1,nl,ns,nc,ne⟩:=ZC4 h2';have hpos:0<ys.length:=List.length_pos_iff.2 h0;obtain⟨v',w',hr,hown,hgr⟩:=run_append_arg_grows (P:=P) w t ty e i z n bytes E.und hi hz hsz hb E.zs n0 a1 xs.length xs.length o1.flatten (by rw[ZAw fun u h=>(os u h).1,ol]) oc ad2 ys.length cap2 n1.flatten (by rw[ZAw fun u h=>(ns u h).1,nl]) nc (by omega) hm hlen;have hx:Ext w w':=⟨hgr.os,hgr.tape,hgr.output,hgr.size,fun k hk=>hgr.block k hk (by simp)⟩;refine fin v' w' (by rw[hv1,hv2];exact hr) hx ?_;obtain⟨a3,cap3,hv3,d1,d2,d3⟩:=Z7 hown;refine⟨a3,cap3,by rw[List.length_append];exact hv3,by rw[List.length_append];exact d1,d2,n0,fun k hk=>?_⟩;have hall:∀u∈o1++n1,u.length=n:=fun u hu=>by
    rcases List.mem_append.1 hu with h|h
    ·exact(os u h).1
    ·exact(ns u h).1
   have hkl:k<(o1++n1).length:=by rw[List.length_append] at hk ⊢;omega
   have hfl:o1.flatten++n1.flatten=(o1++n1).flatten:=List.flatten_append.symm;rw[hfl] at d3;have hmem:(o1++n1)[k].length=n/\∀c∈(o1++n1)[k],c.oneCell'=true:=by
    rcases List.mem_append.1 (List.getElem_mem hkl) with h|h
    ·exact os _ h
    ·exact ns _ h
   have hc0:0<(o1++n1)[k].length:=by rw[hmem.1];exact n0
   obtain⟨gb,ha,_,hB,_⟩:=d3 (k*n+0) (o1++n1)[k][0] (Zu hall hkl (List.getElem?_eq_getElem hc0));have hR:R (Imm P0 B hp) w (.agg (o1++n1)[k].toArray) (xs++ys)[k]:=by
    by_cases hk1:k<o1.length
    ·rw[List.getElem_append_left hk1,List.getElem_append_left (by omega)];exact oe k hk1 (by omega)
    ·rw[List.getElem_append_right (by omega),List.getElem_append_right (by omega)];have:=ne (k-o1.length) (by rw[List.length_append] at hkl;omega) (by rw[List.length_append] at hk;omega);have e3:k-o1.length=k-xs.length:=by rw[ol]
     simp only[e3] at this ⊢;exact this
   refine⟨(o1++n1)[k],gb,0,Good.ext (R:=R) hR hx,hmem.1,hmem.2,ha,hh.fresh hB,fun j c hc=>?_⟩;obtain⟨g',ha',_,_,hc'⟩:=d3 (k*n+j) c (Zu hall hkl hc);rw[ha] at ha';cases ha';rw[Nat.zero_add];exact hc'
end

end
section
open Go.RowKit
section
variable {P:Program} {ops:Array Oper} {hp:List HObj} {o:Oper} {fr:List Dat} {d:Dat} {Q:Z5} {rest:List Oper}
variable {dst:Option Tmp} {ty:TypeId} {ps:String} {af:Array Edge} {g:Option (Nat × Bool)}
variable {t e:TypeId} {n bytes:Nat} {z:Value} {ag:Bool}
theorem SY.fullE (E:ElT P t e n z bytes ag) {α:Type} {R:Rel α} {_gR:Good R} {len:Nat} {parts:Array (Nat × Operand)} {els:List α} (hx:ElsD fr R (parts.toList.map Prod.snd) els) (hparts:parts.toList=((parts.toList.map Prod.snd).zipIdx).map (fun p=>(p.2,p.1))) (hl:len=els.length) (hn:0<n) (hs:∀a,(dS R a).Shape n true) (hsm:els.length*n≤16777216) :
  SY P ops hp ⟨dst,.buildSlice t len parts,ty,ps,af,g⟩ fr (ZGz n R els):=SY.fullK E hparts hx hl hn hs hsm
end

end
section

theorem ZGk (s l:List Vx) (k:Nat) (h:k<l.length):ZC2 s (l.take (k+1))=ZFM (ZC2 s (l.take k)) l[k]:=by rw[Zf h];unfold ZC2;rw[List.foldl_append];rfl
theorem ZE0:∀(s:List Vx) (v:Vx),(ZEE s v).length=s.length+1
 | [],_=>rfl
 | u::s,v=>by
  unfold ZEE;split
  ·simp
  ·simp[ZE0 s v]
theorem ZI5 (s:List Vx) (v:Vx):s.length≤(ZFM s v).length/\(ZFM s v).length≤s.length+1:=by
 unfold ZFM;split
 ·omega
 ·rw[ZE0];omega
theorem ZDT:∀(l s:List Vx),s.length≤(ZC2 s l).length/\(ZC2 s l).length≤s.length+l.length
 | [],s=>by simp[ZC2]
 | v::l,s=>by
  have h1:=ZI5 s v;have h2:=ZDT l (ZFM s v);show _≤(ZC2 (ZFM s v) l).length/\(ZC2 (ZFM s v) l).length≤_;simp only[List.length_cons];omega
theorem ZEj:∀(s:List Vx) (v:Vx) (k:Nat),k≤s.length->(∀x∈s.take k,¬ ZAd v x<0)->ZEE s v=s.take k++ZEE (s.drop k) v
 | _,_,0,_,_=>rfl
 | [],_,k+1,h,_=>by simp at h
 | u::s,v,k+1,h,hx=>by
  have h1:=hx u (by simp);have h2:ZEE (u::s) v=u::ZEE s v:=by rw[ZEE,if_neg h1]
  rw[h2,ZEj s v k (by simpa using h) (fun x hm=>hx x (by simp[hm]))];simp

theorem ZDd:∀(k:Nat) (s x:List Vx),x∈ZX k s->x.length=k
 | 0,_,x,h=>by simp[ZX] at h;simp[h]
 | _+1,[],x,h=>by simp[ZX] at h
 | k+1,v::s,x,h=>by
  unfold ZX at h;rw[List.mem_append,List.mem_map] at h;rcases h with ⟨y,hy,rfl⟩|h
  ·simp[ZDd k s y hy]
  ·exact ZDd (k+1) s x h
end
section
open Go.RowKit

def ZBO (v:Value) (k:Nat):Value:=match v with
 | .slice (some ⟨b,_,_⟩) _ _=>.pointer (some ⟨b,k,none⟩)
 | _=>undef
section
variable {P:Program} {ops:Array Oper} {hp:List HObj} {o:Oper} {fr:List Dat} {d:Dat} {Q:Z5} {rest:List Oper}
variable {dst:Option Tmp} {ty:TypeId} {ps:String} {af:Array Edge} {g:Option (Nat × Bool)} {e e' t T:TypeId} {bytes:Nat} {z:Value} {ag:Bool} {α:Type} {R:Rel α} {xs:List α} {v:Value}
theorem ZEW {_gR:Good R} {x i:Operand} {k:Nat} {j:Int} (E:ElT P t e 1 z bytes ag) (hx:OpD fr x (dX v)) (hm:Zk v e' R xs∈hp) (hi:OpD fr i (dI j)) (hj:j=(k:Int)) (hk:k<xs.length) :
  SY P ops hp ⟨dst,.indexAddr t x i,ty,ps,af,g⟩ fr (dX (ZBO v k)):=ZAG fun {P0 B w0 w a} hh ho=>by
 have h1:a.eval x=v:=hx.get (by simp[Op.operands]) ho;have h2:a.eval i=_:=hi.get (by simp[Op.operands]) ho;obtain⟨b,cap,us,hv,_⟩:=ZFh (hh.ok _ hm) hk;refine⟨.pointer (some ⟨b,0+k*1,none⟩),w,?_,Ext.refl _,?_⟩
 ·unfold execOp;simp only[h1,hv,h2,hj,Sem.run_bind,ZBP (w:=w) E b 0 xs.length cap k .i64 hk,Result.andThen_ok,Sem.run_pure]
 ·show _=ZBO v k;rw[hv];simp[ZBO]
theorem ZGD {_gR:Good R} {x:Operand} {k:Nat} (T':TyI P T 1 false) (hx:OpD fr x (dX (ZBO v k))) (hm:Zk v e' R xs∈hp) (hk:k<xs.length) :
  SY P ops hp ⟨dst,.load T x,ty,ps,af,g⟩ fr (dS R xs[k]):=ZAG fun {P0 B w0 w a} hh ho=>by
 have h1:a.eval x=ZBO v k:=hx.get (by simp[Op.operands]) ho;obtain⟨b,cap,us,hv,hl,hu,o1,o2,o3⟩:=ZFh (hh.ok _ hm) hk;have hc:Cells (fun _=>True) w b k 1 false us[k]:=by
  refine⟨trivial,[us[k]],rfl,by decide,?_,fun i c hc=>?_,rfl⟩
  ·intro c hc;rw[List.mem_singleton.1 hc];exact o1
  ·have hi:i=0:=by
    have:=(List.getElem?_eq_some_iff.1 hc).1;simp at this;exact this
   subst hi;cases hc;exact o3
 have h1':a.eval x = .pointer (some ⟨b,k,none⟩):=by rw[h1,hv];rfl
 refine⟨us[k],w,?_,Ext.refl _,Good.weak o2 fun j hj=>hj.1⟩;unfold execOp;simp only[h1',Sem.run_bind,ZA8 T' hc,Result.andThen_ok,Sem.run_pure]
end
end
section
open Go.RowKit

theorem ZKg (x:Vx):Fn Tryz.prog 41 [dS RV x] (dB (ZDL x)):=by
 (refine ZE Tryz.func41 rfl rfl ?_;simp only[Tryz.ntmps41,List.length_cons,List.length_nil,Nat.reduceAdd,Nat.reduceSub,List.replicate_succ,List.replicate_zero,List.cons_append,List.nil_append])
 ((repeat' (first|(apply WL.opN;exact yF;dsimp only[ZC,z0,z1])|refine WL.nil ?_|refine ZA fun Kx hK=>?_|(refine hK _ _ ?_;clear hK)|refine WC.region ?_|(apply ZF;(focus (first|exact wN|(apply SYG.yes;(exact wY);((first|exact ZBF|exact ZNv|exact ZNu|exact ZDf|exact Z3|exact ZCV|exact ZEN|fail);all_goals infer_instance))));dsimp only[ZC,z0,z1])|((first|refine ZK rfl rfl rfl (fun h=>?_) (fun h=>?_)|refine ZJ rfl rfl rfl (fun h=>?_) (fun h=>?_)|refine ZI rfl rfl rfl (fun h=>?_) (fun h=>?_)) <;> (first|(exfalso;first|omega|contradiction)|(dsimp only[z0,z1])))|refine WC.ret ?_));all_goals (first|((repeat clear hK);(repeat clear Kx))))
 all_goals ((refine⟨trivial,_,rfl,?_⟩;refine FinD.b ?_);unfold ZDL;simp[*])
theorem ZPW (s:List Vx) (v:Vx):Fn Tryz.prog 55 [dS ZM s,dS RV v] (dB (decide (v∈s))):=by
 (refine ZE Tryz.func55 rfl rfl ?_;simp only[Tryz.ntmps55,List.length_cons,List.length_nil,Nat.reduceAdd,Nat.reduceSub,List.replicate_succ,List.replicate_zero,List.cons_append,List.nil_append])
 (repeat' (first|((first|apply WL.opN|apply WD.opN);exact yF;dsimp only[ZC,z0,z1])|refine WL.nil ?_|refine ZA fun Kx hK=>?_|(refine hK _ _ ?_;clear hK)|refine WC.region ?_|((first|apply WL.opN|apply WD.opN);(focus ((first|exact ZEN|fail);all_goals infer_instance));dsimp only[ZC,z0,z1])|refine WC.block ?_))
 (first|refine ZR (t:=0) rfl ZEH fun hl0=>?_|refine ZR (t:=0) rfl ZDu fun hl0=>?_);simp only[maxLen] at hl0
 (refine WC.loopU (X:=Nat) (fun k=>[(5,dI (k:Int)),(4,dA),(6,dA),(7,dA),(8,dA),(9,dA),(10,dA),(11,dA),(12,dA),(13,dA),(14,dA),(15,dA),(16,dA),(17,dA)]) (fun k=>[]) (fun k=>s.length-k) (fun k=>k≤s.length/\v∉s.take k) 0 ?start ?frame0 ?objs0 ?round)
 case start=>simp
 case frame0=>exact zFr
 case objs0=>rfl
 case round =>
  rintro k ⟨h1,h2⟩;dsimp only[ZL,z0,z1];((repeat' (first|((first|apply WL.opN|apply WD.opN);exact yF;dsimp only[ZC,z0,z1])|refine WL.nil ?_|refine WD.nil ?_|refine ZA fun Kx hK=>?_|(refine hK _ _ ?_;clear hK)|(refine Kont.skip ?_;clear hK)|refine WC.region ?_|(apply WC.draw;kernel_rfl;kernel_rfl)|((first|apply WL.opN|apply WD.opN);(focus ((first|exact ZBF|exact ZHe|exact ZBg|exact ZA3|exact ZT|fail);all_goals infer_instance));dsimp only[ZC,z0,z1])|(apply ZB;(exact oD);all_goals (intro h;try exact xD))|refine WC.skip ?_|refine WC.ret ?_|refine WC.exit ?_|refine WC.block ?_|refine ThenD.n ?_|refine ThenD.r ?_|refine InBlockD.r ?_));all_goals (first|((repeat clear hK);(repeat clear Kx))))
  ·(refine⟨trivial,_,rfl,?_⟩;refine FinD.b ?_)
   rename_i h;rw[<- h];simp
  ·(refine zNx (k+1) ?_;(try dsimp only))
   rename_i h;exact⟨by omega,fun hm=>by rcases(Zv (by omega)).1 hm with h'|h';exact h2 h';exact h h'.symm⟩
  ·(refine⟨trivial,_,rfl,?_⟩;refine FinD.b ?_)
   rw[List.take_of_length_le (by omega)] at h2;simp[h2]
theorem ZRc (s:List Vx):Fn Tryz.prog 53 [dS ZM s] (dI (ZAC s)):=by
 (refine ZE Tryz.func53 rfl rfl ?_;simp only[Tryz.ntmps53,List.length_cons,List.length_nil,Nat.reduceAdd,Nat.reduceSub,List.replicate_succ,List.replicate_zero,List.cons_append,List.nil_append])
 ((repeat' (first|((first|apply WL.opN|apply WD.opN);exact yF;dsimp only[ZC,z0,z1])|refine WL.nil ?_|refine ZA fun Kx hK=>?_|(refine hK _ _ ?_;clear hK)|refine WC.region ?_|((first|apply ZF|apply WD.op);(focus (first|exact wN|(apply SYG.yes;(exact wY);((first|exact ZFN|exact ZHe|exact ZA3|fail);all_goals infer_instance))));dsimp only[ZC,z0,z1])|(apply ZB;(exact oD);all_goals (intro h;try exact xD))|refine WC.skip ?_|refine WC.ret ?_|refine WC.block ?_|refine ThenD.r ?_|refine InBlockD.r ?_));all_goals (first|refine WC.id ?_|((repeat clear hK);(repeat clear Kx))))
 ·(refine⟨trivial,_,rfl,?_⟩;refine FinD.i ?_)
  unfold ZAC;rw[if_pos (by omega)]
 ·(refine⟨trivial,_,rfl,?_⟩;refine FinD.i ?_)
  unfold ZAC;rw[if_neg (by omega),if_pos (by omega)]
 ·rename_i h1 h2;have hs:ZAC s=ZMF none s:=by unfold ZAC;rw[if_neg (by omega),if_neg (by omega)]
  (refine WC.loopU (X:=Nat) (fun k=>[(3,dI (k:Int)),(2,dA),(12,dA),(13,dA),(14,dA),(15,dA),(16,dA),(17,dA),(18,dA),(19,dA),(20,dA),(21,dA),(22,dA),(23,dA),(24,dA),(25,dA),(26,dA),(27,dA),(28,dA),(29,dA),(30,dA),(31,dA),(32,dA),(33,dA),(34,dA),(35,dA),(36,dA),(37,dA),(38,dA)]) (fun k=>[]) (fun k=>s.length-k) (fun k=>k≤s.length/\ZAC s=ZMF (s.take k).getLast? (s.drop k)) 0 ?start ?frame0 ?objs0 ?round)
  case start=>exact⟨Nat.zero_le _,by rw[hs];rfl⟩
  case frame0=>exact zFr
  case objs0=>rfl
  case round =>
   rintro k ⟨h3,h4⟩;dsimp only[ZL,z0,z1];((repeat' (first|((first|apply WL.opN|apply WD.opN);exact yF;dsimp only[ZC,z0,z1])|refine WL.nil ?_|refine WD.nil ?_|refine ZA fun Kx hK=>?_|(refine hK _ _ ?_;clear hK)|(refine Kont.skip ?_;clear hK)|refine WC.region ?_|(apply WC.draw;kernel_rfl;kernel_rfl)|((first|apply ZF|apply WD.op);(focus (first|exact wN|(apply SYG.yes;(exact wY);((first|(apply SY.call (ZGx _ _) Tryz.call42;(exact aD))|(apply SY.call (ZKg _) Tryz.call41;(exact aD))|(apply ZGd elV (OpD.t rfl) (OpD.t rfl) (k-1);omega;omega)|exact ZCX|exact ZBF|exact ZFN|exact ZNu|exact ZLC|exact ZBg|exact ZLw|exact ZDf|exact ZA3|exact ZT|exact ZCV|fail);all_goals infer_instance))));dsimp only[ZC,z0,z1])|((first|refine ZK rfl rfl rfl (fun h=>?_) (fun h=>?_)|refine ZJ rfl rfl rfl (fun h=>?_) (fun h=>?_)|refine ZI rfl rfl rfl (fun h=>?_) (fun h=>?_)|refine ZW rfl rfl rfl (fun h=>?_) (fun h=>?_)|refine ZU rfl rfl rfl (fun h=>?_) (fun h=>?_)|refine ZS rfl rfl rfl (fun h=>?_) (fun h=>?_)) <;> (first|(exfalso;first|omega|contradiction)|(dsimp only[z0,z1])))|(apply ZQ;(exact oD);(with_reducible rfl))|(apply ZB;(exact oD);all_goals (intro h;try exact xD))|(apply ZO;(exact oD);all_goals (intro h;try exact xD))|refine WC.skip ?_|refine WC.ret ?_|refine WC.exit ?_|refine WC.block ?_|refine ThenD.n ?_|refine ThenD.r ?_|refine InBlockD.r ?_));all_goals (first|((repeat clear hK);(repeat clear Kx))))
   all_goals try (rw[ZGr s k (by omega)] at h4)
   ·(refine⟨trivial,_,rfl,?_⟩;refine FinD.i ?_)
    rw[h4,if_pos h]
   ·(refine⟨trivial,_,rfl,?_⟩;refine FinD.i ?_)
    have h5:ZDL s[k]=true:=by assumption
    rw[h4,if_neg (by simp[h5]),ZC9 _ _ (by omega) (by omega),if_pos (by simpa using h)]
   ·(refine zNx (k+1) ?_;(try dsimp only))
    refine⟨by omega,?_⟩;have h5:ZDL s[k]=true:=by assumption
    rw[h4,if_neg (by simp[h5]),ZC9 _ _ (by omega) (by omega),if_neg (by simpa using h)]
   ·(refine zNx (k+1) ?_;(try dsimp only))
    refine⟨by omega,?_⟩;have h5:ZDL s[k]=true:=by assumption
    have h0:(s.take k).getLast?=none:=by
     have:k=0:=by omega
     rw[this];rfl
    rw[h4,if_neg (by simp[h5]),h0];rfl
   ·(refine⟨trivial,_,rfl,?_⟩;refine FinD.i ?_)
    rw[h4,List.drop_of_length_le (by omega)];rfl
end
section
open Go.RowKit

theorem ZLa {s:List Vx} {v:Vx} {k:Nat} (h:k<s.length) (hx:∀y∈s.take k,¬ ZAd v y<0) (hlt:ZAd v s[k]<0):s.take k++v::s.drop k=ZEE s v:=by
 rw[ZEj s v k (by omega) hx,Zy h];unfold ZEE;rw[if_pos hlt]
theorem ZIp {s:List Vx} {v:Vx} (hx:∀y∈s,¬ ZAd v y<0):s++[v]=ZEE s v:=by
 rw[ZEj s v s.length (Nat.le_refl _) (by rw[List.take_of_length_le (Nat.le_refl _)];exact hx)];simp[ZEE]
theorem ZUN (s:List Vx) (v:Vx) (hs:s.length≤1000):Fn Tryz.prog 146 [dS ZM s,dS RV v] (dS ZM (ZFM s v)):=by
 (refine ZE Tryz.func146 rfl rfl ?_;simp only[Tryz.ntmps146,List.length_cons,List.length_nil,Nat.reduceAdd,Nat.reduceSub,List.replicate_succ,List.replicate_zero,List.cons_append,List.nil_append])
 ((repeat' (first|((first|apply WL.opN|apply WD.opN);exact yF;dsimp only[ZC,z0,z1])|refine WL.nil ?_|refine ZA fun Kx hK=>?_|(refine hK _ _ ?_;clear hK)|refine WC.region ?_|((first|apply ZF|apply WD.op);(focus (first|exact wN|(apply SYG.yes;(exact wY);((first|(apply SY.call (ZPW _ _) Tryz.call55;(exact aD))|exact ZEN|fail);all_goals infer_instance))));dsimp only[ZC,z0,z1])|(apply ZB;(exact oD);all_goals (intro h;try exact xD))|refine WC.skip ?_|refine WC.ret ?_|refine WC.block ?_|refine ThenD.r ?_));all_goals (first|refine WC.id ?_|((repeat clear hK);(repeat clear Kx))))
 ·(refine⟨trivial,_,rfl,?_⟩;refine ZEo ?_)
  unfold ZFM;rw[if_pos h]
 ·have hp:ZFM s v=ZEE s v:=by unfold ZFM;rw[if_neg h]
  refine ZCy 77 2 (by decide) RV ?_;(refine WC.loopU (X:=Nat × Bool × Value × List Vx) (fun x=>[(5,dX x.2.2.1),(6,dB x.2.1),(7,dI (x.1:Int)),(12,dA),(13,dA),(14,dA),(15,dA),(16,dA),(17,dA),(18,dA),(19,dA),(20,dA),(21,dA),(22,dA),(23,dA),(24,dA),(25,dA),(26,dA),(27,dA),(28,dA),(29,dA),(30,dA),(31,dA),(32,dA),(33,dA),(34,dA),(35,dA),(36,dA),(37,dA),(38,dA),(39,dA)]) (fun x=>[Z0 x.2.2.1 77 2 RV x.2.2.2]) (fun x=>s.length-x.1) (fun x=>x.1≤s.length/\x.2.2.2.length≤x.1+1/\(x.2.1=false->x.2.2.2=s.take x.1/\∀y∈s.take x.1,¬ ZAd v y<0)/\(x.2.1=true->x.2.2.2++s.drop x.1=ZEE s v)) (0,false,.slice none 0 0,[]) ?start ?frame0 ?objs0 ?round)
  case start=>simp
  case frame0=>exact zFr
  case objs0=>rfl
  case round =>
   rintro⟨k,dn,u,o⟩ ⟨h1,h2,h3,h4⟩;dsimp only[ZL,z0,z1];simp only at h1 h2 h3 h4;cases dn with
   | true =>
    ((repeat' (first|((first|apply WL.opN|apply WD.opN);exact yF;dsimp only[ZC,z0,z1])|refine WL.nil ?_|refine WD.nil ?_|refine ZA fun Kx hK=>?_|(refine hK _ _ ?_;clear hK)|(refine Kont.skip ?_;clear hK)|refine WC.region ?_|(apply WC.draw;kernel_rfl;kernel_rfl)|((first|apply Zs|apply Zl);(exact eD);exact OpD.t rfl;(exact oD);(intro _;exact hD);(exact(by simp));(exact(by simp));(first|exact⟨by decide,by decide⟩|skip);decide;(exact lD);(intro _;dsimp only[ZC,z0,z1]);all_goals (try infer_instance))|((first|apply ZF|apply WD.op);(focus (first|exact wN|(apply SYG.yes;(exact wY);((first|exact ZBF|exact ZLC|exact ZBg|exact ZA3|exact ZT|exact ZCV|fail);all_goals infer_instance))));dsimp only[ZC,z0,z1])|((first|refine ZK rfl rfl rfl (fun h=>?_) (fun h=>?_)|refine ZJ rfl rfl rfl (fun h=>?_) (fun h=>?_)|refine ZI rfl rfl rfl (fun h=>?_) (fun h=>?_)|refine ZW rfl rfl rfl (fun h=>?_) (fun h=>?_)|refine ZU rfl rfl rfl (fun h=>?_) (fun h=>?_)|refine ZS rfl rfl rfl (fun h=>?_) (fun h=>?_)) <;> (first|(exfalso;first|omega|contradiction)|(dsimp only[z0,z1])))|(apply ZQ;(exact oD);(with_reducible rfl))|(apply ZB;(exact oD);all_goals (intro h;try exact xD))|(apply ZO;(exact oD);all_goals (intro h;try exact xD))|refine WC.skip ?_|refine WC.ret ?_|refine WC.exit ?_|refine WC.block ?_|refine ThenD.n ?_));all_goals (first|((repeat clear hK);(repeat clear Kx))))
    ·(refine zNx (k+1,true,_,_) ?_;(try dsimp only))
     have hk:k<s.length:=by omega
     refine⟨by omega,by simp;omega,fun hc=>absurd hc (by simp),fun _=>?_⟩;rw[<- h4 rfl,Zy hk];simp
    ·(refine⟨trivial,_,rfl,?_⟩;refine ZBi (.head _) ?_)
     rw[hp,<- h4 rfl,List.drop_of_length_le (by omega)];simp
   | false =>
    obtain⟨rfl,h5⟩:=h3 rfl;((repeat' (first|((first|apply WL.opN|apply WD.opN);exact yF;dsimp only[ZC,z0,z1])|refine WL.nil ?_|refine WD.nil ?_|refine ZA fun Kx hK=>?_|(refine hK _ _ ?_;clear hK)|(refine Kont.skip ?_;clear hK)|refine WC.region ?_|(apply WC.draw;kernel_rfl;kernel_rfl)|((first|apply Zs|apply Zl);(exact eD);exact OpD.t rfl;(exact oD);(intro _;exact hD);(exact(by simp));(exact(by simp));(first|exact⟨by decide,by decide⟩|skip);decide;(exact lD);(intro _;dsimp only[ZC,z0,z1]);all_goals (try infer_instance))|((first|apply ZF|apply WD.op);(focus (first|exact wN|(apply SYG.yes;(exact wY);((first|(apply SY.call (ZGx _ _) Tryz.call42;(exact aD))|exact ZCX|exact ZBF|exact ZLC|exact ZBg|exact ZDf|exact ZA3|exact ZT|exact ZCV|fail);all_goals infer_instance))));dsimp only[ZC,z0,z1])|((first|refine ZK rfl rfl rfl (fun h=>?_) (fun h=>?_)|refine ZJ rfl rfl rfl (fun h=>?_) (fun h=>?_)|refine ZI rfl rfl rfl (fun h=>?_) (fun h=>?_)|refine ZW rfl rfl rfl (fun h=>?_) (fun h=>?_)|refine ZU rfl rfl rfl (fun h=>?_) (fun h=>?_)|refine ZS rfl rfl rfl (fun h=>?_) (fun h=>?_)) <;> (first|(exfalso;first|omega|contradiction)|(dsimp only[z0,z1])))|(apply ZB;(exact oD);all_goals (intro h;try exact xD))|(apply ZO;(exact oD);all_goals (intro h;try exact xD))|refine WC.skip ?_|refine WC.ret ?_|refine WC.exit ?_|refine WC.block ?_|refine ThenD.n ?_));all_goals (first|((repeat clear hK);(repeat clear Kx))))
    ·(refine zNx (k+1,true,_,_) ?_;(try dsimp only))
     have hk:k<s.length:=by omega
     refine⟨by omega,by simp;omega,fun hc=>absurd hc (by simp),fun _=>?_⟩;rw[<- ZLa hk h5 h,Zy hk];simp
    ·(refine zNx (k+1,false,_,_) ?_;(try dsimp only))
     have hk:k<s.length:=by omega
     refine⟨by omega,by simp;omega,fun _=>⟨(Zf hk).symm,fun y hy=>?_⟩,fun hc=>absurd hc (by simp)⟩;rcases(Zv hk).1 hy with h'|rfl
     ·exact h5 y h'
     ·exact h
    ·(refine⟨trivial,_,rfl,?_⟩;refine ZBi (.head _) ?_)
     rw[hp];rw[List.take_of_length_le (by omega)] at h5 ⊢;exact ZIp h5
theorem ZEF (a b:List Vx):Fn Tryz.prog 87 [dS ZM a,dS ZM b] (dB (Z8 a b)):=by
 (refine ZE Tryz.func87 rfl rfl ?_;simp only[Tryz.ntmps87,List.length_cons,List.length_nil,Nat.reduceAdd,Nat.reduceSub,List.replicate_succ,List.replicate_zero,List.cons_append,List.nil_append])
 (repeat' (first|(apply WL.opN;exact yF;dsimp only[ZC,z0,z1])|refine WL.nil ?_|refine ZA fun Kx hK=>?_|(refine hK _ _ ?_;clear hK)|refine WC.region ?_|refine WC.block ?_))
 (first|refine ZR (t:=0) rfl ZEH fun hl0=>?_|refine ZR (t:=0) rfl ZDu fun hl0=>?_);simp only[maxLen] at hl0
 (refine WC.loopU (X:=Nat) (fun k=>[(5,dI (k:Int)),(4,dA),(6,dA),(7,dA),(8,dA),(9,dA),(10,dA),(11,dA),(12,dA),(13,dA),(14,dA),(15,dA),(16,dA),(17,dA),(18,dA)]) (fun k=>[]) (fun k=>a.length-k) (fun k=>k≤a.length/\(a.take k).all (fun x=>decide (x∈b))=true) 0 ?start ?frame0 ?objs0 ?round)
 case start=>simp
 case frame0=>exact zFr
 case objs0=>rfl
 case round =>
  rintro k ⟨h1,h2⟩;dsimp only[ZL,z0,z1];((repeat' (first|(apply WL.opN;exact yF;dsimp only[ZC,z0,z1])|refine WL.nil ?_|refine ZA fun Kx hK=>?_|(refine hK _ _ ?_;clear hK)|(refine Kont.skip ?_;clear hK)|refine WC.region ?_|(apply WL.opN;(focus ((first|(apply SY.call (ZPW _ _) Tryz.call55;(exact aD))|exact ZBF|exact ZLC|exact ZBg|exact ZA3|exact ZT|fail);all_goals infer_instance));dsimp only[ZC,z0,z1])|(apply ZB;(exact oD);all_goals (intro h;try exact xD))|(apply ZG;(exact oD);all_goals (intro h;try exact xD))|refine WC.skip ?_|refine WC.ret ?_|refine WC.exit ?_|refine WC.block ?_|refine ThenD.n ?_|refine ThenD.r ?_|refine InBlockD.r ?_));all_goals (first|((repeat clear hK);(repeat clear Kx))))
  ·(refine⟨trivial,_,rfl,?_⟩;refine FinD.b ?_)
   unfold Z8
   symm
   rw[List.all_eq_false];exact⟨a[k],List.getElem_mem _,by simpa using h⟩
  ·(refine zNx (k+1) ?_;(try dsimp only))
   exact⟨by omega,by rw[ZIT (by omega),h2];simpa using h⟩
  ·(refine⟨trivial,_,rfl,?_⟩;refine FinD.b ?_)
   rw[List.take_of_length_le (by omega)] at h2;exact h2.symm
theorem ZOs (a b:List Vx) (ha:a.length≤800) (hb:b.length≤100):Fn Tryz.prog 126 [dS ZM a,dS ZM b] (dS ZM (ZC2 a b)):=by
 (refine ZE Tryz.func126 rfl rfl ?_;simp only[Tryz.ntmps126,List.length_cons,List.length_nil,Nat.reduceAdd,Nat.reduceSub,List.replicate_succ,List.replicate_zero,List.cons_append,List.nil_append])
 (repeat' (first|(apply WL.opN;exact yF;dsimp only[ZC,z0,z1])|refine WL.nil ?_|refine ZA fun Kx hK=>?_|(refine hK _ _ ?_;clear hK)|refine WC.region ?_ |  (apply ZC0 elV RV (by decide);(intro _;dsimp only[ZC,z0,z1]);all_goals (try infer_instance))|((first|apply WL.appK|apply WL.app1);(exact eD);exact OpD.t rfl;(exact oD);decide;(exact lD);(intro _;dsimp only[ZC,z0,z1]);all_goals (try infer_instance))|refine WC.block ?_))
 refine ZIN (s:=5) rfl ?_;dsimp only[z0,z1,List.nil_append];(refine WC.loopU (X:=Nat) (fun k=>[(5,dS ZM (ZC2 a (b.take k))),(6,dI (k:Int)),(10,dA),(11,dA),(12,dA),(13,dA),(14,dA),(15,dA),(16,dA),(17,dA),(18,dA),(19,dA),(20,dA),(21,dA)]) (fun k=>[]) (fun k=>b.length-k) (fun k=>k≤b.length) 0 ?start ?frame0 ?objs0 ?round)
 case start=>simp
 case frame0=>exact zFr
 case objs0=>rfl
 case round =>
  rintro k h1;dsimp only[ZL,z0,z1];have h2:=(ZDT (b.take k) a).2;have h3:(b.take k).length≤k:=List.length_take_le _ _;have h4:(ZC2 a (b.take k)).length≤1000:=by omega
  ((repeat' (first|(apply WL.opN;exact yF;dsimp only[ZC,z0,z1])|refine WL.nil ?_|refine ZA fun Kx hK=>?_|(refine hK _ _ ?_;clear hK)|(refine Kont.skip ?_;clear hK)|refine WC.region ?_|(apply WL.opN;(focus ((first|(apply SY.call (ZUN _ _ h4) Tryz.call146;(exact aD))|exact ZBF|exact ZBg|exact ZA3|exact ZT|fail);all_goals infer_instance));dsimp only[ZC,z0,z1])|(apply ZB;(exact oD);all_goals (intro h;try exact xD))|refine WC.skip ?_|refine WC.ret ?_|refine WC.exit ?_|refine WC.block ?_|refine ThenD.n ?_));all_goals (first|((repeat clear hK);(repeat clear Kx))))
  ·rw[<- ZGk a b k (by omega)];(refine zNx (k+1) ?_;(try dsimp only))
   omega
  ·(refine⟨trivial,_,rfl,?_⟩;refine ZEo ?_)
   rw[List.take_of_length_le (by omega)]
end
end Go.Proofs.YtofkoleingbbpaaGreatDoor
