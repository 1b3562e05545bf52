/- Part 1 of the proof. -/
import Derived.Test.YtofkoleingbbpaaGreatDoorZa10
set_option linter.all false
set_option maxRecDepth 100000
set_option maxHeartbeats 64000000
namespace Go.Proofs.YtofkoleingbbpaaGreatDoor
section
open Go.RowKit

theorem Good.any {α:Type} {R:Rel α} [Good R] {P:Nat->Prop} {w:World} {v:Value} {x:α} (h:R P w v x):R anyB w v x:=Good.weak h fun _ _=>trivial

theorem Arr.any {α:Type} {R:Rel α} [Good R] {P:Nat->Prop} {w:World} {v:Value} {xs:List α} (h:Arr R P w v xs):Arr R anyB w v xs:=Good.any h
section
variable {α:Type} {R:Rel α} {P:Nat->Prop} {w:World} {v:Value} {xs:List α} {B:Nat} {e:TypeId} {n:Nat}

theorem ZTK [Good R] (h:Own B e R P w v xs):Arr R (fun k=>P k\/B≤k) w v xs:=by
 obtain⟨us,hl,ho,he⟩:=h;obtain⟨a,cap,hv,h1,h2,h3⟩:=Z7 ho;refine⟨a,cap,hv,h1,h2,fun k hk=>?_⟩;have hk':k<us.length:=by omega
 obtain⟨g,ha,_,hB,hc⟩:=h3 k us[k] (List.getElem?_eq_getElem hk');obtain⟨r1,r2⟩:=he k hk' hk;exact⟨us[k],g,0,Good.weak r2 (fun b hb=>.inl hb.1),r1,ha,.inr hB,by rw[Nat.zero_add];exact hc⟩
end


section
variable {P:Program} {ops:Array Oper} {rest:List Oper} {o:Oper} {a:Act} {Q:Exit->Act->World->Prop} {w:World}

variable {t e:TypeId} {n bytes:Nat} {z:Value} {agg:Bool}

variable {C:World->Prop} {QA:Act->Prop}

end

end
section
open Go.RowKit

section
variable {P:Program} {ops:Array Oper} {hp:List HObj} {o:Oper} {fr:List Dat} {d:Dat} {Q:Z4} {rest:List Oper}
variable {dst:Option Tmp} {ty:TypeId} {ps:String} {af:Array Edge} {g:Option (Nat × Bool)}

theorem ArgH.row {v:Value} {e:TypeId} {α:Type} {R:Rel α} {_gR:Good R} {xs:List α} (h:Zk v e R xs∈hp):ArgH hp (dX v) (dS (Arr R) xs):=ArgH.mk fun hh hd=>by cases (hd:_=_);exact(ZTK (hh.ok _ h)).any
theorem ArgsH.cons {fr:List Dat} {x:Operand} {xs:List Operand} {d0 d:Dat} {ds:List Dat} (h:OpD fr x d0) (h':ArgH hp d0 d) (k:ArgsH fr hp xs ds):ArgsH fr hp (x::xs) (d::ds) :=
 ⟨by simp[k.1],fun i y e hy he=>by
  cases i with
  | zero=>simp at hy he;subst hy;subst he;exact⟨d0,h,h'⟩
  | succ i=>exact k.2 i y e (by simpa using hy) (by simpa using he)⟩
theorem ZL1 {f:FuncId} {args:Array Operand} {ats:Array TypeId} {ds:List Dat} (hF:Fn P f ds d) (hd:d.Bare) (hf:∀(args:Array Value) (w:World),(callFunc f args).run P w = .ok (.enter f args) w) (ha:ArgsH fr hp args.toList ds) :
  SY P ops hp ⟨dst,.call { callee:=.value (.func f),args:=args,argTypes:=ats },ty,ps,af,g⟩ fr d :=
 ZGA hf fun {P0 B w0 w a} hh ho=>by
  have h1:=hF.out anyB w (args.toList.map a.eval) (by simpa using ha.1) fun i d hd=>by
   have hi:i<args.toList.length:=by rw[ha.1];exact(List.getElem?_eq_some_iff.1 hd).1
   obtain⟨d0,h2,h3⟩:=ha.2 i _ d (List.getElem?_eq_getElem hi) hd;have:=h3.out hh (h2.get (by simp only[Op.operands,Call.operands];simp) ho);have hi':i<args.size:=by simpa using hi
   simpa[List.getD,hi'] using this
  have he:(args.toList.map a.eval).toArray=args.map a.eval:=by apply Array.ext';simp
  rw[he] at h1;exact h1.mono fun e w' ⟨v,h1,h2,h3⟩=>⟨v,h1,h2,hd _ _ _ _ _ h3⟩

section
variable {p:Prop} {_ip:Decidable p} {b:Bool} {gi:Nat} {pol:Bool} {t:Tmp} {K:List Dat->Prop}
theorem ZX (hg:o.guard=some (gi,pol)) (ht:(ops[gi]?).bind (·.dst)=some t) (hf:fr[t]?=some (dB (!decide p))) (h1:¬ p->WD P ops hp K (o::rest) (fr.set t (dB true))) (h2:p->WD P ops hp K (o::rest) (fr.set t (dB false))):WD P ops hp K (o::rest) fr :=
 ZV hg ht hf (fun h=>h1 (by simpa using h)) (fun h=>h2 (by simpa using h))
end

theorem ZEn {α:Type} {R:Rel α} {_gR:Good R} {x y:α} (h:x=y):FinD hp (dS R x) (dS R y):=ZWR (ZLb (by rw[h]))
end

end
section
open Go.RowKit

theorem bD {fr:List Dat} {hp:List HObj} {xs:List Operand} {ds:List Dat} (h:ArgsH fr hp xs ds:=by(repeat (first|exact ArgsH.nil|(apply ArgsH.cons;(first|exact ZVh rfl|exact ZV5|exact ZWE|exact ZWQ|exact ZWO);(first|exact ArgH.row (.head _)|exact ArgH.rowK (.head _)|exact ArgH.row (.tail _ (.head _))|exact ArgH.rowK (.tail _ (.head _))|exact ArgH.le (ZWI _)|exact ArgH.le ZN|exact ArgH.le (ZJ (by decide))))))):ArgsH fr hp xs ds:=h
end
section
open Go.RowKit

section
variable {P:Program} {ops:Array Oper} {hp:List HObj} {o:Oper} {fr:List Dat} {d:Dat} {Q:Z4} {rest:List Oper}
variable {dst:Option Tmp} {ty:TypeId} {ps:String} {af:Array Edge} {g:Option (Nat × Bool)}
variable {t e:TypeId} {n bytes:Nat} {z:Value} {ag:Bool}

theorem ZIN {c:Code} {α:Type} {R:Rel α} {_gR:Good R} {v:Value} {xs:List α} {s:Tmp} (hs:fr[s]?=some (dX v)) (h:WC P Q c (fr.set s (dS (ArrK n R) xs)) hp):WC P Q c fr (Zx v e n R xs::hp):=WC.of fun _ _ _ _ _ hh hf=>h.on hh.drop (ZCM hf hs (d:=dS (ArrK n R) xs) (ZEo hh))

end

end
section
open Go.RowKit

section
variable {P:Program} {ops:Array Oper} {hp:List HObj} {md:Region.Mode} {w:World}

end

def ZGy {α:Type} (n:Nat) (R:Rel α) [Good R] (xs:List α):Dat where
 rd:=fun I w v=>ArrK n R I w v xs/\∃a,v = .slice (some a) xs.length xs.length
 weak:=fun⟨h,k⟩ q=>⟨Good.weak (R:=ArrK n R) h q,k⟩
 move:=fun⟨h,k⟩ q=>⟨Good.move (R:=ArrK n R) h q,k⟩
 bound:=fun⟨h,k⟩=>⟨Good.bound (R:=ArrK n R) h,k⟩
section
variable {P:Program} {ops:Array Oper} {hp:List HObj} {o:Oper} {fr:List Dat} {d:Dat} {Q:Z4} {rest:List Oper}
variable {dst:Option Tmp} {ty:TypeId} {ps:String} {af:Array Edge} {g:Option (Nat × Bool)}
variable {t e:TypeId} {n bytes:Nat} {z:Value} {ag:Bool}
theorem SY.fullK (E:ElT P t e n z bytes ag) {α:Type} {R:Rel α} {_gR:Good R} {len:Nat} {parts:Array (Nat × Operand)} {xs:List Operand} {els:List α} (hparts:parts.toList=(xs.zipIdx).map (fun p=>(p.2,p.1))) (hx:ElsD fr R xs els) (hl:len=els.length) (hn:0<n) (hs:∀a,(dS R a).Shape n true) (hsm:els.length*n≤16777216) :
  SY P ops hp ⟨dst,.buildSlice t len parts,ty,ps,af,g⟩ fr (ZGy n R els):=ZAG fun {P0 B w0 w a} hh ho=>by
 obtain⟨css,hr,hcl,hcn,hel⟩:=ZBS E hx hl hparts hs hsm hh ho;refine⟨_,_,hr,ZWU _ _,⟨some ⟨w.heap.size,0,none⟩,els.length,rfl,Nat.le_refl _,by simp only[maxLen];have:els.length*1≤els.length*n:=Nat.mul_le_mul_left _ hn;omega,hn,fun k hk=>?_⟩,_,rfl⟩;have hkc:k<css.length:=by omega
 obtain⟨u,hu,hR⟩:=hel k css[k] els[k] (List.getElem?_eq_getElem hkc) (List.getElem?_eq_getElem hk);simp only[if_true] at hu;subst hu;have hm:=hcn css[k] (List.getElem_mem hkc);refine⟨css[k],w.heap.size,0,Good.ext (R:=R) hR (ZWU _ _),hm.1,hm.2,rfl,hh.fresh (Nat.le_refl _),fun j c hc=>?_⟩;rw[cell_of_row _ _ _ _ _ _ (Zw w _),Nat.zero_add];simpa using Zt (fun u hu=>(hcn u hu).1) hkc hc
theorem ZC5 {α:Type} {R:Rel α} {I:Nat->Prop} {w:World} {a:Addr} {cap:Nat} {xs:List α} (h:ArrK n R I w (.slice (some a) xs.length cap) xs):0<n/\xs.length≤cap/\∃news:List (List Value),news.length=xs.length/\(∀u∈news,u.length=n/\∀c∈u,c.oneCell'=true)/\(∀j u,news.flatten[j]?=some u->w.cell? (a.add j)=some u) /\
  ∀(k:Nat) (h:k<news.length) (h':k<xs.length),R I w (.agg news[k].toArray) xs[k]:=by
 obtain⟨ad,cap',hv,c1,c2,c0,c3⟩:=h;cases hv;have hch:∀k:Nat,∃cs:List Value,∀h:k<xs.length,cs.length=n/\(∀c∈cs,c.oneCell'=true)/\(∀j c,cs[j]?=some c->w.cell? (a.add (k*n+j))=some c)/\R I w (.agg cs.toArray) xs[k]:=fun k=>by
  by_cases hk:k<xs.length
  ·obtain⟨cs,b,off,r1,r2,r3,r4,r5,r6⟩:=c3 k hk;cases r4;exact⟨cs,fun _=>⟨r2,r3,fun j c hc=>by rw[Addr.add_lit,<- Nat.add_assoc];exact r6 j c hc,r1⟩⟩
  ·exact⟨[],fun h=>absurd h hk⟩
 obtain⟨f,hfch⟩:=Classical.axiomOfChoice hch;have hmem:∀u∈(List.range xs.length).map f,∃j,j<xs.length/\u=f j:=fun u hu=>by
  simp only[List.mem_map,List.mem_range] at hu;obtain⟨j,hj,rfl⟩:=hu;exact⟨j,hj,rfl⟩
 refine⟨c0,c1,(List.range xs.length).map f,by simp,fun u hu=>by obtain⟨j,hj,rfl⟩:=hmem u hu;exact⟨(hfch j hj).1,(hfch j hj).2.1⟩,fun j u hu=>?_,fun k h1 h2=>by
  simp only[List.getElem_map,List.getElem_range];exact(hfch k h2).2.2.2⟩
 have hlt:=(List.getElem?_eq_some_iff.1 hu).1;have hfl:((List.range xs.length).map f).flatten.length=xs.length*n:=by
  rw[ZAv (n:=n) fun u hu=>by obtain⟨j,hj,rfl⟩:=hmem u hu;exact(hfch j hj).1];simp
 rw[hfl] at hlt;have hq:j / n<xs.length:=(Nat.div_lt_iff_lt_mul c0).2 hlt;have hr:j % n<n:=Nat.mod_lt _ c0;have hj:j=(j / n)*n+j % n:=by rw[Nat.mul_comm];exact(Nat.div_add_mod j n).symm
 have hlen':=(hfch (j / n) hq).1;have hg:=Zt (us:=(List.range xs.length).map f) (n:=n) (k:=j / n) (j:=j % n) (fun u hu=>by obtain⟨j,hj,rfl⟩:=hmem u hu;exact(hfch j hj).1) (by simpa using hq) (c:=(f (j / n))[j % n]'(by omega)) (by simp);rw[<- hj,hu] at hg;cases hg;have:=(hfch (j / n) hq).2.2.1 (j % n) _ (List.getElem?_eq_getElem (by omega));rw[<- hj] at this;exact this
theorem ZCI {s y:Operand} (E:ElT P t e n z bytes ag) {α:Type} {R:Rel α} {_gR:Good R} {xs ys:List α} (hs:OpD fr s (ZGy n R xs)) (hy:OpD fr y (dS (ArrK n R) ys)) (hby:0<bytes) (hlen:(xs.length+ys.length)*bytes≤140737488355328) :
  SY P ops hp ⟨dst,.call { callee:=.builtin .append,args:=#[s,y],argTypes:=#[t,t] },ty,ps,af,g⟩ fr (dS (ArrK n R) (xs++ys)):=ZAG fun {P0 B w0 w a} hh ho=>by
 obtain⟨h1,a1,hv1⟩:=hs.get (by simp[Op.operands,Call.operands]) ho;have h2:ArrK n R _ w (a.eval y) ys:=hy.get (by simp[Op.operands,Call.operands]) ho;obtain⟨i,hi,hz,hsz,hb⟩:=info_parts E.info;have hm:xs.length+ys.length≤maxLen:=by
  have:(xs.length+ys.length)*1≤(xs.length+ys.length)*bytes:=Nat.mul_le_mul_left _ hby;simp only[maxLen];omega
 have h1':=h1;rw[hv1] at h1';have fin:∀v' w',(Builtin.append_ #[t,t] ty #[a.eval s,a.eval y]).run P w = .ok v' w'->Ext w w'->ArrK n R (Imm P0 B hp) w' v' (xs++ys)->∃v w',(execOp a.eval ⟨dst,.call { callee:=.builtin .append,args:=#[s,y],argTypes:=#[t,t] },ty,ps,af,g⟩).run P w = .ok (.value v) w'/\Ext w w'/\(dS (ArrK n R) (xs++ys)).rd (Imm P0 B hp) w' v:=by
  intro v' w' hr hx hd;refine⟨v',w',?_,hx,hd⟩;unfold execOp;simp only[resolve,invoke,builtin,List.map_toArray,List.map_cons,List.map_nil,Sem.run_bind,Sem.run_pure,Result.andThen_ok,hr]
 have h2':=h2;obtain⟨ad2,cap2,hv2,q1,q2,q0,q3⟩:=h2;by_cases h0:ys=[]
 ·subst h0;have hsrc:Src P i.size t (a.eval y) 0 [] w:=by
   rw[hv2];cases ad2 with
   | none=>exact Src.ofNil w E.und cap2
   | some ad2=>exact Src.ofSlice w E.und ad2 0 cap2 [] (by simp) (fun j u h=>by simp at h) (fun u h=>by simp at h)
  refine fin (a.eval s) w ?_ (ZWS _) (by rw[List.append_nil];exact h1);have:=run_append_nothing (P:=P) w t t ty e i E.und hi (some a1) xs.length xs.length (Nat.le_refl _) (a.eval y) hsrc;rw[hv1];exact this
 ·cases ad2 with
  | none =>
   obtain⟨_,_,_,_,_,_,hc,_⟩:=q3 0 (List.length_pos_iff.2 h0);cases hc
  | some ad2 =>
   rw[hv2] at h2';obtain⟨n0,_,o1,ol,os,oc,oe⟩:=ZC5 h1';obtain⟨_,_,n1,nl,ns,nc,ne⟩:=ZC5 h2';have hpos:0<ys.length:=List.length_pos_iff.2 h0;obtain⟨v',w',hr,hown,hgr⟩:=run_append_arg_grows (P:=P) w t ty e i z n bytes E.und hi hz hsz hb E.zs n0 a1 xs.length xs.length o1.flatten (by rw[ZAv fun u h=>(os u h).1,ol]) oc ad2 ys.length cap2 n1.flatten (by rw[ZAv fun u h=>(ns u h).1,nl]) nc (by omega) hm hlen;have hx:Ext w w':=⟨hgr.os,hgr.tape,hgr.output,hgr.size,fun k hk=>hgr.block k hk (by simp)⟩;refine fin v' w' (by rw[hv1,hv2];exact hr) hx ?_;obtain⟨a3,cap3,hv3,d1,d2,d3⟩:=Z7 hown;refine⟨a3,cap3,by rw[List.length_append];exact hv3,by rw[List.length_append];exact d1,d2,n0,fun k hk=>?_⟩;have hall:∀u∈o1++n1,u.length=n:=fun u hu=>by
    rcases List.mem_append.1 hu with h|h
    ·exact(os u h).1
    ·exact(ns u h).1
   have hkl:k<(o1++n1).length:=by rw[List.length_append] at hk ⊢;omega
   have hfl:o1.flatten++n1.flatten=(o1++n1).flatten:=List.flatten_append.symm;rw[hfl] at d3;have hmem:(o1++n1)[k].length=n/\∀c∈(o1++n1)[k],c.oneCell'=true:=by
    rcases List.mem_append.1 (List.getElem_mem hkl) with h|h
    ·exact os _ h
    ·exact ns _ h
   have hc0:0<(o1++n1)[k].length:=by rw[hmem.1];exact n0
   obtain⟨gb,ha,_,hB,_⟩:=d3 (k*n+0) (o1++n1)[k][0] (Zt hall hkl (List.getElem?_eq_getElem hc0));have hR:R (Imm P0 B hp) w (.agg (o1++n1)[k].toArray) (xs++ys)[k]:=by
    by_cases hk1:k<o1.length
    ·rw[List.getElem_append_left hk1,List.getElem_append_left (by omega)];exact oe k hk1 (by omega)
    ·rw[List.getElem_append_right (by omega),List.getElem_append_right (by omega)];have:=ne (k-o1.length) (by rw[List.length_append] at hkl;omega) (by rw[List.length_append] at hk;omega);have e3:k-o1.length=k-xs.length:=by rw[ol]
     simp only[e3] at this ⊢;exact this
   refine⟨(o1++n1)[k],gb,0,Good.ext (R:=R) hR hx,hmem.1,hmem.2,ha,hh.fresh hB,fun j c hc=>?_⟩;obtain⟨g',ha',_,_,hc'⟩:=d3 (k*n+j) c (Zt hall hkl hc);rw[ha] at ha';cases ha';rw[Nat.zero_add];exact hc'
theorem ZN9 {x y:Operand} {T T2:TypeId} {p q:Bool} (hx:OpD fr x (dB p)) (hy:OpD fr y (dB q)) (hq:∀(x y:Operand) (p q:Bool) w,(do eqGuard .eql T x y (.bool p) (.bool q);Go.binOp .eql T (.bool p) (.bool q)).run P w = .ok (.bool (p == q)) w):SY P ops hp ⟨dst,.binOp .eql T x y T2,ty,ps,af,g⟩ fr (dB (p == q)):=ZWK fun {I w a} ho=>by
 have h1:a.eval x = .bool p:=hx.get (by simp[Op.operands]) ho;have h2:a.eval y = .bool q:=hy.get (by simp[Op.operands]) ho;refine⟨.bool (p == q),?_,rfl⟩;have:=hq x y p q w;unfold execOp;simp only[h1,h2];rw[Sem.run_bind,this];simp
end

end
section
open Go.RowKit
section
variable {P:Program} {ops:Array Oper} {hp:List HObj} {o:Oper} {fr:List Dat} {d:Dat} {Q:Z4} {rest:List Oper}
variable {dst:Option Tmp} {ty:TypeId} {ps:String} {af:Array Edge} {g:Option (Nat × Bool)}
variable {t e:TypeId} {n bytes:Nat} {z:Value} {ag:Bool}
theorem SY.fullE (E:ElT P t e n z bytes ag) {α:Type} {R:Rel α} {_gR:Good R} {len:Nat} {parts:Array (Nat × Operand)} {els:List α} (hx:ElsD fr R (parts.toList.map Prod.snd) els) (hparts:parts.toList=((parts.toList.map Prod.snd).zipIdx).map (fun p=>(p.2,p.1))) (hl:len=els.length) (hn:0<n) (hs:∀a,(dS R a).Shape n true) (hsm:els.length*n≤16777216) :
  SY P ops hp ⟨dst,.buildSlice t len parts,ty,ps,af,g⟩ fr (ZGy n R els):=SY.fullK E hparts hx hl hn hs hsm
end

end
section

theorem ZGj (s l:List Vx) (k:Nat) (h:k<l.length):ZC3 s (l.take (k+1))=ZFL (ZC3 s (l.take k)) l[k]:=by rw[Ze h];unfold ZC3;rw[List.foldl_append];rfl
theorem ZEz:∀(s:List Vx) (v:Vx),(ZED s v).length=s.length+1
 | [],_=>rfl
 | u::s,v=>by
  unfold ZED;split
  ·simp
  ·simp[ZEz s v]
theorem ZI5 (s:List Vx) (v:Vx):s.length≤(ZFL s v).length/\(ZFL s v).length≤s.length+1:=by
 unfold ZFL;split
 ·omega
 ·rw[ZEz];omega
theorem ZDT:∀(l s:List Vx),s.length≤(ZC3 s l).length/\(ZC3 s l).length≤s.length+l.length
 | [],s=>by simp[ZC3]
 | v::l,s=>by
  have h1:=ZI5 s v;have h2:=ZDT l (ZFL s v);show _≤(ZC3 (ZFL s v) l).length/\(ZC3 (ZFL s v) l).length≤_;simp only[List.length_cons];omega
theorem ZEi:∀(s:List Vx) (v:Vx) (k:Nat),k≤s.length->(∀x∈s.take k,¬ ZAW v x<0)->ZED s v=s.take k++ZED (s.drop k) v
 | _,_,0,_,_=>rfl
 | [],_,k+1,h,_=>by simp at h
 | u::s,v,k+1,h,hx=>by
  have h1:=hx u (by simp);have h2:ZED (u::s) v=u::ZED s v:=by rw[ZED,if_neg h1]
  rw[h2,ZEi s v k (by simpa using h) (fun x hm=>hx x (by simp[hm]))];simp

theorem ZDd:∀(k:Nat) (s x:List Vx),x∈ZT k s->x.length=k
 | 0,_,x,h=>by simp[ZT] at h;simp[h]
 | _+1,[],x,h=>by simp[ZT] at h
 | k+1,v::s,x,h=>by
  unfold ZT at h;rw[List.mem_append,List.mem_map] at h;rcases h with ⟨y,hy,rfl⟩|h
  ·simp[ZDd k s y hy]
  ·exact ZDd (k+1) s x h
end
section
open Go.RowKit

def ZBO (v:Value) (k:Nat):Value:=match v with
 | .slice (some ⟨b,_,_⟩) _ _=>.pointer (some ⟨b,k,none⟩)
 | _=>undef
section
variable {P:Program} {ops:Array Oper} {hp:List HObj} {o:Oper} {fr:List Dat} {d:Dat} {Q:Z4} {rest:List Oper}
variable {dst:Option Tmp} {ty:TypeId} {ps:String} {af:Array Edge} {g:Option (Nat × Bool)} {e e' t T:TypeId} {bytes:Nat} {z:Value} {ag:Bool} {α:Type} {R:Rel α} {xs:List α} {v:Value}
theorem ZEV {_gR:Good R} {x i:Operand} {k:Nat} {j:Int} (E:ElT P t e 1 z bytes ag) (hx:OpD fr x (dX v)) (hm:Zk v e' R xs∈hp) (hi:OpD fr i (dI j)) (hj:j=(k:Int)) (hk:k<xs.length) :
  SY P ops hp ⟨dst,.indexAddr t x i,ty,ps,af,g⟩ fr (dX (ZBO v k)):=ZAG fun {P0 B w0 w a} hh ho=>by
 have h1:a.eval x=v:=hx.get (by simp[Op.operands]) ho;have h2:a.eval i=_:=hi.get (by simp[Op.operands]) ho;obtain⟨b,cap,us,hv,_⟩:=ZFh (hh.ok _ hm) hk;refine⟨.pointer (some ⟨b,0+k*1,none⟩),w,?_,ZWS _,?_⟩
 ·unfold execOp;simp only[h1,hv,h2,hj,Sem.run_bind,ZBP (w:=w) E b 0 xs.length cap k .i64 hk,Result.andThen_ok,Sem.run_pure]
 ·show _=ZBO v k;rw[hv];simp[ZBO]
theorem ZGD {_gR:Good R} {x:Operand} {k:Nat} (T':TyI P T 1 false) (hx:OpD fr x (dX (ZBO v k))) (hm:Zk v e' R xs∈hp) (hk:k<xs.length) :
  SY P ops hp ⟨dst,.load T x,ty,ps,af,g⟩ fr (dS R xs[k]):=ZAG fun {P0 B w0 w a} hh ho=>by
 have h1:a.eval x=ZBO v k:=hx.get (by simp[Op.operands]) ho;obtain⟨b,cap,us,hv,hl,hu,o1,o2,o3⟩:=ZFh (hh.ok _ hm) hk;have hc:Cells (fun _=>True) w b k 1 false us[k]:=by
  refine⟨trivial,[us[k]],rfl,by decide,?_,fun i c hc=>?_,rfl⟩
  ·intro c hc;rw[List.mem_singleton.1 hc];exact o1
  ·have hi:i=0:=by
    have:=(List.getElem?_eq_some_iff.1 hc).1;simp at this;exact this
   subst hi;cases hc;exact o3
 have h1':a.eval x = .pointer (some ⟨b,k,none⟩):=by rw[h1,hv];rfl
 refine⟨us[k],w,?_,ZWS _,Good.weak o2 fun j hj=>hj.1⟩;unfold execOp;simp only[h1',Sem.run_bind,ZA8 T' hc,Result.andThen_ok,Sem.run_pure]
theorem ZT9 [Good R] {I:Nat->Prop} {w:World} {k:Nat} (hv:Own 0 e R I w v xs) (hk:k<xs.length) {u:Value} (hu1:u.oneCell'=true) {y:α} (hu:R (fun b=>I b/\v.ownBlock≠some b) w u y) :
  ∃g cap,v = .slice (some ⟨g,0,none⟩) xs.length cap/\(store ((⟨g,k,none⟩:Addr).add 0) u).run P w = .ok () (w.setCell ⟨g,k,none⟩ u)/\Own 0 e R I (w.setCell ⟨g,k,none⟩ u) v (xs.set k y)/\w.grownBy (w.setCell ⟨g,k,none⟩ u) (some g)/\v.ownBlock=some g:=by
 obtain⟨us,hl,⟨hul,ho⟩,he⟩:=hv;rcases ho with ⟨rfl,h0⟩|⟨g,cap,cur,rfl,hB,hg,hn,hm,hs,ht⟩
 ·omega
 ·rw[Nat.mul_one] at hs ht;have hkc:k<cur.size:=by omega
  have hset:=setCell_eq_setRow w g k cur e (0,0) u hg;have hc:w.cell? ⟨g,k,none⟩=some cur[k]:=by simp[World.cell?,hg,hkc]
  have hf:w.frozen? ⟨g,k,none⟩=false:=by simp[World.frozen?,hg]
  have hgr:w.grownBy (w.setRow g (cur.setIfInBounds k u)) (some g):=ZAM;refine⟨g,cap,rfl,?_,⟨us.set k u,by simp[hl],⟨by simp[hul],.inr ⟨g,cap,cur.setIfInBounds k u,by simp,hB,?_,by simpa using hn,hm,by simpa using hs,?_⟩⟩,?_⟩,by rw[hset];exact hgr,rfl⟩
  ·rw[show((⟨g,k,none⟩:Addr).add 0)=⟨g,k,none⟩ from rfl,run_store P w _ u _ hu1,hc];simp[hf]
  ·rw[hset];exact setRow_heap w g cur _ e _ hg
  ·simp only[List.length_set,Nat.mul_one,Array.toList_setIfInBounds];rw[<- ht,List.take_set]
  ·intro j h1 h2;simp only[List.length_set] at h1 h2;rw[List.getElem_set,List.getElem_set,hset];by_cases hkj:k=j
   ·rw[if_pos hkj,if_pos hkj];exact⟨hu1,Good.grown hu hgr (fun r hr hc=>hc.2 (by cases hr;rfl))⟩
   ·rw[if_neg hkj,if_neg hkj];exact⟨(he j h1 h2).1,Good.grown (he j h1 h2).2 hgr (fun r hr hc=>hc.2 (by cases hr;rfl))⟩
end
end
section
open Go.RowKit

theorem eqBB:∀(x y:Operand) (p q:Bool) w,(do eqGuard .eql 4 x y (.bool p) (.bool q);Go.binOp .eql 4 (.bool p) (.bool q)).run Tryz.prog w = .ok (.bool (p == q)) w:=by
 intro x y p q w;cases p <;> cases q <;> go_simp
end
section
open Go.RowKit

theorem ZKg (x:Vx):Fn Tryz.prog 41 [dS RV x] (dB (ZDL x)):=by
 refine zE Tryz.func41 21 ?_;((repeat' (first|refine zS ?_|refine ZA fun Kx hK=>?_|(refine hK _ _ ?_;clear hK)|(apply ZF;(focus (first|exact wN|(apply ZVt;exact wY;((first|exact ZBF|exact ZNx|exact ZNw|exact ZDf|exact Z2|exact ZCV|exact ZEL|fail);all_goals infer_instance))));dsimp only[ZC,z0,z1])|((first|refine ZM rfl rfl rfl (fun h=>?_) (fun h=>?_)|refine ZL rfl rfl rfl (fun h=>?_) (fun h=>?_)|refine ZK rfl rfl rfl (fun h=>?_) (fun h=>?_)) <;> (first|(exfalso;first|omega|contradiction)|(dsimp only[z0,z1])))|refine ZVs ?_));all_goals ((repeat clear hK);repeat clear Kx))
 all_goals ((refine⟨trivial,_,rfl,?_⟩;refine ZWL ?_);unfold ZDL;simp[*])
theorem ZPY (s:List Vx) (v:Vx):Fn Tryz.prog 55 [dS ZI s,dS RV v] (dB (decide (v∈s))):=by
 refine zE Tryz.func55 18 ?_;(repeat' (first|refine zS ?_|refine ZA fun Kx hK=>?_|(refine hK _ _ ?_;clear hK)|(apply zV;(focus ((first|exact ZEL);all_goals infer_instance));exact zQ)|refine ZVp ?_))
 (first|refine ZP (t:=0) rfl ZEG fun hl0=>?_|refine ZP (t:=0) rfl ZDu fun hl0=>?_);simp only[maxLen] at hl0
 (refine ZV4 (X:=Nat) (fun k=>[(5,dI (k:Int)),(4,dA),(6,dA),(7,dA),(8,dA),(9,dA),(10,dA),(11,dA),(12,dA),(13,dA),(14,dA),(15,dA),(16,dA),(17,dA)]) (fun k=>[]) (fun k=>s.length-k) (fun k=>k≤s.length/\v∉s.take k) 0 ?start ?frame0 ?objs0 ?round)
 case start=>simp
 case frame0=>exact zFr
 case objs0=>rfl
 case round =>
  rintro k ⟨h1,h2⟩;dsimp only[ZH,z0,z1];((repeat' (first|refine zS ?_|refine WD.nil ?_|refine ZA fun Kx hK=>?_|(refine hK _ _ ?_;clear hK)|(refine ZV0 ?_;clear hK)|(apply ZWB;kernel_rfl;kernel_rfl)|((first|apply ZVi|apply ZVl);(focus ((first|exact ZBF|exact ZHe|exact ZBg|exact ZA3|exact ZS|fail);all_goals infer_instance));dsimp only[ZC,z0,z1])|(apply ZB;exact oD;all_goals (intro h;try exact xD))|refine ZVr ?_|refine ZVs ?_|refine ZV1 ?_|refine ZVp ?_|refine ZVx ?_|refine ZVz ?_|refine ZWC ?_));all_goals ((repeat clear hK);repeat clear Kx))
  ·(refine⟨trivial,_,rfl,?_⟩;refine ZWL ?_)
   rename_i h;rw[<- h];simp
  ·(refine zNx (k+1) ?_;(try dsimp only))
   rename_i h;exact⟨by omega,fun hm=>by rcases(Zu (by omega)).1 hm with h'|h';exact h2 h';exact h h'.symm⟩
  ·(refine⟨trivial,_,rfl,?_⟩;refine ZWL ?_)
   rw[List.take_of_length_le (by omega)] at h2;simp[h2]
theorem ZRd (s:List Vx):Fn Tryz.prog 53 [dS ZI s] (dI (ZAC s)):=by
 refine zE Tryz.func53 39 ?_;((repeat' (first|refine zS ?_|refine ZA fun Kx hK=>?_|(refine hK _ _ ?_;clear hK)|((first|apply ZF|apply WD.op);(focus (first|exact wN|(apply ZVt;exact wY;((first|exact ZFM|exact ZHe|exact ZA3|fail);all_goals infer_instance))));dsimp only[ZC,z0,z1])|(apply ZB;exact oD;all_goals (intro h;try exact xD))|refine ZVr ?_|refine ZVs ?_|refine ZVp ?_|refine ZVz ?_|refine ZWC ?_));all_goals (first|refine WC.id ?_|((repeat clear hK);(repeat clear Kx))))
 ·(refine⟨trivial,_,rfl,?_⟩;refine ZWH ?_)
  unfold ZAC;rw[if_pos (by omega)]
 ·(refine⟨trivial,_,rfl,?_⟩;refine ZWH ?_)
  unfold ZAC;rw[if_neg (by omega),if_pos (by omega)]
 ·rename_i h1 h2;have hs:ZAC s=ZMH none s:=by unfold ZAC;rw[if_neg (by omega),if_neg (by omega)]
  (refine ZV4 (X:=Nat) (fun k=>[(3,dI (k:Int)),(2,dA),(12,dA),(13,dA),(14,dA),(15,dA),(16,dA),(17,dA),(18,dA),(19,dA),(20,dA),(21,dA),(22,dA),(23,dA),(24,dA),(25,dA),(26,dA),(27,dA),(28,dA),(29,dA),(30,dA),(31,dA),(32,dA),(33,dA),(34,dA),(35,dA),(36,dA),(37,dA),(38,dA)]) (fun k=>[]) (fun k=>s.length-k) (fun k=>k≤s.length/\ZAC s=ZMH (s.take k).getLast? (s.drop k)) 0 ?start ?frame0 ?objs0 ?round)
  case start=>exact⟨Nat.zero_le _,by rw[hs];rfl⟩
  case frame0=>exact zFr
  case objs0=>rfl
  case round =>
   rintro k ⟨h3,h4⟩;dsimp only[ZH,z0,z1];((repeat' (first|refine zS ?_|refine WD.nil ?_|refine ZA fun Kx hK=>?_|(refine hK _ _ ?_;clear hK)|(refine ZV0 ?_;clear hK)|(apply ZWB;kernel_rfl;kernel_rfl)|((first|apply ZF|apply WD.op);(focus (first|exact wN|(apply ZVt;exact wY;((first|(apply ZVm (ZGw _ _) Tryz.call42;exact aD)|(apply ZVm (ZKg _) Tryz.call41;exact aD)|(apply ZGd elV (ZVh rfl) (ZVh rfl) (k-1);omega;omega)|exact ZCX|exact ZBF|exact ZFM|exact ZNw|exact ZLC|exact ZBg|exact ZLx|exact ZDf|exact ZA3|exact ZS|exact ZCV|fail);all_goals infer_instance))));dsimp only[ZC,z0,z1])|((first|refine ZM rfl rfl rfl (fun h=>?_) (fun h=>?_)|refine ZL rfl rfl rfl (fun h=>?_) (fun h=>?_)|refine ZK rfl rfl rfl (fun h=>?_) (fun h=>?_)|refine Za rfl rfl rfl (fun h=>?_) (fun h=>?_)|refine ZX rfl rfl rfl (fun h=>?_) (fun h=>?_)|refine ZV rfl rfl rfl (fun h=>?_) (fun h=>?_)) <;> (first|(exfalso;first|omega|contradiction)|(dsimp only[z0,z1])))|(apply ZQ;exact oD;(with_reducible rfl))|(apply ZB;exact oD;all_goals (intro h;try exact xD))|(apply ZO;exact oD;all_goals (intro h;try exact xD))|refine ZVr ?_|refine ZVs ?_|refine ZV1 ?_|refine ZVp ?_|refine ZVx ?_|refine ZVz ?_|refine ZWC ?_));all_goals ((repeat clear hK);repeat clear Kx))
   all_goals try (rw[ZGq s k (by omega)] at h4)
   ·(refine⟨trivial,_,rfl,?_⟩;refine ZWH ?_)
    rw[h4,if_pos h]
   ·(refine⟨trivial,_,rfl,?_⟩;refine ZWH ?_)
    have h5:ZDL s[k]=true:=by assumption
    rw[h4,if_neg (by simp[h5]),ZDA _ _ (by omega) (by omega),if_pos (by simpa using h)]
   ·(refine zNx (k+1) ?_;(try dsimp only))
    refine⟨by omega,?_⟩;have h5:ZDL s[k]=true:=by assumption
    rw[h4,if_neg (by simp[h5]),ZDA _ _ (by omega) (by omega),if_neg (by simpa using h)]
   ·(refine zNx (k+1) ?_;(try dsimp only))
    refine⟨by omega,?_⟩;have h5:ZDL s[k]=true:=by assumption
    have h0:(s.take k).getLast?=none:=by
     have:k=0:=by omega
     rw[this];rfl
    rw[h4,if_neg (by simp[h5]),h0];rfl
   ·(refine⟨trivial,_,rfl,?_⟩;refine ZWH ?_)
    rw[h4,List.drop_of_length_le (by omega)];rfl
end
section
open Go.RowKit

theorem ZLa {s:List Vx} {v:Vx} {k:Nat} (h:k<s.length) (hx:∀y∈s.take k,¬ ZAW v y<0) (hlt:ZAW v s[k]<0):s.take k++v::s.drop k=ZED s v:=by
 rw[ZEi s v k (by omega) hx,Zv h];unfold ZED;rw[if_pos hlt]
theorem ZIp {s:List Vx} {v:Vx} (hx:∀y∈s,¬ ZAW v y<0):s++[v]=ZED s v:=by
 rw[ZEi s v s.length (Nat.le_refl _) (by rw[List.take_of_length_le (Nat.le_refl _)];exact hx)];simp[ZED]
theorem ZUN (s:List Vx) (v:Vx) (hs:s.length≤1000):Fn Tryz.prog 146 [dS ZI s,dS RV v] (dS ZI (ZFL s v)):=by
 refine zE Tryz.func146 47 ?_;((repeat' (first|refine zS ?_|refine ZA fun Kx hK=>?_|(refine hK _ _ ?_;clear hK)|((first|apply ZF|apply WD.op);(focus (first|exact wN|(apply ZVt;exact wY;((first|(apply ZVm (ZPY _ _) Tryz.call55;exact aD)|exact ZEL|fail);all_goals infer_instance))));dsimp only[ZC,z0,z1])|(apply ZB;exact oD;all_goals (intro h;try exact xD))|refine ZVr ?_|refine ZVs ?_|refine ZVp ?_|refine ZVz ?_));all_goals (first|refine WC.id ?_|((repeat clear hK);(repeat clear Kx))))
 ·(refine⟨trivial,_,rfl,?_⟩;refine ZEn ?_)
  unfold ZFL;rw[if_pos h]
 ·have hp:ZFL s v=ZED s v:=by unfold ZFL;rw[if_neg h]
  refine ZCz 77 2 (by decide) RV ?_;(refine ZV4 (X:=Nat × Bool × Value × List Vx) (fun x=>[(5,dX x.2.2.1),(6,dB x.2.1),(7,dI (x.1:Int)),(12,dA),(13,dA),(14,dA),(15,dA),(16,dA),(17,dA),(18,dA),(19,dA),(20,dA),(21,dA),(22,dA),(23,dA),(24,dA),(25,dA),(26,dA),(27,dA),(28,dA),(29,dA),(30,dA),(31,dA),(32,dA),(33,dA),(34,dA),(35,dA),(36,dA),(37,dA),(38,dA),(39,dA)]) (fun x=>[Zx x.2.2.1 77 2 RV x.2.2.2]) (fun x=>s.length-x.1) (fun x=>x.1≤s.length/\x.2.2.2.length≤x.1+1/\(x.2.1=false->x.2.2.2=s.take x.1/\∀y∈s.take x.1,¬ ZAW v y<0)/\(x.2.1=true->x.2.2.2++s.drop x.1=ZED s v)) (0,false,.slice none 0 0,[]) ?start ?frame0 ?objs0 ?round)
  case start=>simp
  case frame0=>exact zFr
  case objs0=>rfl
  case round =>
   rintro⟨k,dn,u,o⟩ ⟨h1,h2,h3,h4⟩;dsimp only[ZH,z0,z1];simp only at h1 h2 h3 h4;cases dn with
   | true =>
    ((repeat' (first|refine zS ?_|refine WD.nil ?_|refine ZA fun Kx hK=>?_|(refine hK _ _ ?_;clear hK)|(refine ZV0 ?_;clear hK)|(apply ZWB;kernel_rfl;kernel_rfl)|((first|apply Zq|apply Zl);exact eD;exact ZVh rfl;exact oD;(intro _;exact hD);(exact(by simp));(exact(by simp));(first|exact⟨by decide,by decide⟩|skip);decide;exact lD;(intro _;dsimp only[ZC,z0,z1]);all_goals (try infer_instance))|((first|apply ZF|apply WD.op);(focus (first|exact wN|(apply ZVt;exact wY;((first|exact ZBF|exact ZLC|exact ZBg|exact ZA3|exact ZS|exact ZCV|fail);all_goals infer_instance))));dsimp only[ZC,z0,z1])|((first|refine ZM rfl rfl rfl (fun h=>?_) (fun h=>?_)|refine ZL rfl rfl rfl (fun h=>?_) (fun h=>?_)|refine ZK rfl rfl rfl (fun h=>?_) (fun h=>?_)|refine Za rfl rfl rfl (fun h=>?_) (fun h=>?_)|refine ZX rfl rfl rfl (fun h=>?_) (fun h=>?_)|refine ZV rfl rfl rfl (fun h=>?_) (fun h=>?_)) <;> (first|(exfalso;first|omega|contradiction)|(dsimp only[z0,z1])))|(apply ZQ;exact oD;(with_reducible rfl))|(apply ZB;exact oD;all_goals (intro h;try exact xD))|(apply ZO;exact oD;all_goals (intro h;try exact xD))|refine ZVr ?_|refine ZVs ?_|refine ZV1 ?_|refine ZVp ?_|refine ZVx ?_));all_goals ((repeat clear hK);repeat clear Kx))
    ·(refine zNx (k+1,true,_,_) ?_;(try dsimp only))
     have hk:k<s.length:=by omega
     refine⟨by omega,by simp;omega,fun hc=>absurd hc (by simp),fun _=>?_⟩;rw[<- h4 rfl,Zv hk];simp
    ·(refine⟨trivial,_,rfl,?_⟩;refine ZBi (.head _) ?_)
     rw[hp,<- h4 rfl,List.drop_of_length_le (by omega)];simp
   | false =>
    obtain⟨rfl,h5⟩:=h3 rfl;((repeat' (first|refine zS ?_|refine WD.nil ?_|refine ZA fun Kx hK=>?_|(refine hK _ _ ?_;clear hK)|(refine ZV0 ?_;clear hK)|(apply ZWB;kernel_rfl;kernel_rfl)|((first|apply Zq|apply Zl);exact eD;exact ZVh rfl;exact oD;(intro _;exact hD);(exact(by simp));(exact(by simp));(first|exact⟨by decide,by decide⟩|skip);decide;exact lD;(intro _;dsimp only[ZC,z0,z1]);all_goals (try infer_instance))|((first|apply ZF|apply WD.op);(focus (first|exact wN|(apply ZVt;exact wY;((first|(apply ZVm (ZGw _ _) Tryz.call42;exact aD)|exact ZCX|exact ZBF|exact ZLC|exact ZBg|exact ZDf|exact ZA3|exact ZS|exact ZCV|fail);all_goals infer_instance))));dsimp only[ZC,z0,z1])|((first|refine ZM rfl rfl rfl (fun h=>?_) (fun h=>?_)|refine ZL rfl rfl rfl (fun h=>?_) (fun h=>?_)|refine ZK rfl rfl rfl (fun h=>?_) (fun h=>?_)|refine Za rfl rfl rfl (fun h=>?_) (fun h=>?_)|refine ZX rfl rfl rfl (fun h=>?_) (fun h=>?_)|refine ZV rfl rfl rfl (fun h=>?_) (fun h=>?_)) <;> (first|(exfalso;first|omega|contradiction)|(dsimp only[z0,z1])))|(apply ZB;exact oD;all_goals (intro h;try exact xD))|(apply ZO;exact oD;all_goals (intro h;try exact xD))|refine ZVr ?_|refine ZVs ?_|refine ZV1 ?_|refine ZVp ?_|refine ZVx ?_));all_goals ((repeat clear hK);repeat clear Kx))
    ·(refine zNx (k+1,true,_,_) ?_;(try dsimp only))
     have hk:k<s.length:=by omega
     refine⟨by omega,by simp;omega,fun hc=>absurd hc (by simp),fun _=>?_⟩;rw[<- ZLa hk h5 h,Zv hk];simp
    ·(refine zNx (k+1,false,_,_) ?_;(try dsimp only))
     have hk:k<s.length:=by omega
     refine⟨by omega,by simp;omega,fun _=>⟨(Ze hk).symm,fun y hy=>?_⟩,fun hc=>absurd hc (by simp)⟩;rcases(Zu hk).1 hy with h'|rfl
     ·exact h5 y h'
     ·exact h
    ·(refine⟨trivial,_,rfl,?_⟩;refine ZBi (.head _) ?_)
     rw[hp];rw[List.take_of_length_le (by omega)] at h5 ⊢;exact ZIp h5
theorem ZEE (a b:List Vx):Fn Tryz.prog 87 [dS ZI a,dS ZI b] (dB (Z8 a b)):=by
 refine zE Tryz.func87 19 ?_;(repeat' (first|refine zS ?_|refine ZA fun Kx hK=>?_|(refine hK _ _ ?_;clear hK)|refine ZVp ?_))
 (first|refine ZP (t:=0) rfl ZEG fun hl0=>?_|refine ZP (t:=0) rfl ZDu fun hl0=>?_);simp only[maxLen] at hl0
 (refine ZV4 (X:=Nat) (fun k=>[(5,dI (k:Int)),(4,dA),(6,dA),(7,dA),(8,dA),(9,dA),(10,dA),(11,dA),(12,dA),(13,dA),(14,dA),(15,dA),(16,dA),(17,dA),(18,dA)]) (fun k=>[]) (fun k=>a.length-k) (fun k=>k≤a.length/\(a.take k).all (fun x=>decide (x∈b))=true) 0 ?start ?frame0 ?objs0 ?round)
 case start=>simp
 case frame0=>exact zFr
 case objs0=>rfl
 case round =>
  rintro k ⟨h1,h2⟩;dsimp only[ZH,z0,z1];((repeat' (first|refine zS ?_|refine ZA fun Kx hK=>?_|(refine hK _ _ ?_;clear hK)|(refine ZV0 ?_;clear hK)|(apply zV;(focus ((first|(apply ZVm (ZPY _ _) Tryz.call55;exact aD)|exact ZBF|exact ZLC|exact ZBg|exact ZA3|exact ZS);all_goals infer_instance));exact zQ)|(apply ZB;exact oD;all_goals (intro h;try exact xD))|(apply ZG;exact oD;all_goals (intro h;try exact xD))|refine ZVr ?_|refine ZVs ?_|refine ZV1 ?_|refine ZVp ?_|refine ZVx ?_|refine ZVz ?_|refine ZWC ?_));all_goals ((repeat clear hK);repeat clear Kx))
  ·(refine⟨trivial,_,rfl,?_⟩;refine ZWL ?_)
   unfold Z8
   symm
   rw[List.all_eq_false];exact⟨a[k],List.getElem_mem _,by simpa using h⟩
  ·(refine zNx (k+1) ?_;(try dsimp only))
   exact⟨by omega,by rw[ZIT (by omega),h2];simpa using h⟩
  ·(refine⟨trivial,_,rfl,?_⟩;refine ZWL ?_)
   rw[List.take_of_length_le (by omega)] at h2;exact h2.symm
theorem ZOu (a b:List Vx) (ha:a.length≤800) (hb:b.length≤100):Fn Tryz.prog 126 [dS ZI a,dS ZI b] (dS ZI (ZC3 a b)):=by
 refine zE Tryz.func126 23 ?_;(repeat' (first|(apply zV;exact yF;exact zQ)|refine ZVj ?_|refine ZA fun Kx hK=>?_|(refine hK _ _ ?_;clear hK)|refine ZVk ?_ |  (apply ZC1 elV RV (by decide);(intro _;dsimp only[ZC,z0,z1]);all_goals (try infer_instance))|((first|apply ZWW|apply ZWX);exact eD;exact ZVh rfl;exact oD;decide;exact lD;(intro _;dsimp only[ZC,z0,z1]);all_goals (try infer_instance))|refine ZVp ?_))
 refine ZIN (s:=5) rfl ?_;dsimp only[z0,z1,List.nil_append];(refine ZV4 (X:=Nat) (fun k=>[(5,dS ZI (ZC3 a (b.take k))),(6,dI (k:Int)),(10,dA),(11,dA),(12,dA),(13,dA),(14,dA),(15,dA),(16,dA),(17,dA),(18,dA),(19,dA),(20,dA),(21,dA)]) (fun k=>[]) (fun k=>b.length-k) (fun k=>k≤b.length) 0 ?start ?frame0 ?objs0 ?round)
 case start=>simp
 case frame0=>exact zFr
 case objs0=>rfl
 case round =>
  rintro k h1;dsimp only[ZH,z0,z1];have h2:=(ZDT (b.take k) a).2;have h3:(b.take k).length≤k:=List.length_take_le _ _;have h4:(ZC3 a (b.take k)).length≤1000:=by omega
  ((repeat' (first|refine zS ?_|refine ZA fun Kx hK=>?_|(refine hK _ _ ?_;clear hK)|(refine ZV0 ?_;clear hK)|(apply zV;(focus ((first|(apply ZVm (ZUN _ _ h4) Tryz.call146;exact aD)|exact ZBF|exact ZBg|exact ZA3|exact ZS);all_goals infer_instance));exact zQ)|(apply ZB;exact oD;all_goals (intro h;try exact xD))|refine ZVr ?_|refine ZVs ?_|refine ZV1 ?_|refine ZVp ?_|refine ZVx ?_));all_goals ((repeat clear hK);repeat clear Kx))
  ·rw[<- ZGj a b k (by omega)];(refine zNx (k+1) ?_;(try dsimp only))
   omega
  ·(refine⟨trivial,_,rfl,?_⟩;refine ZEn ?_)
   rw[List.take_of_length_le (by omega)]
end
section
open Go.RowKit

theorem ZKs:∀(k:Nat) (s:List Vx),s.length≤10->k≤100->Fn Tryz.prog 136 [dS ZI s,dI (k:Int)] (dS Zh (ZT k s))
 | 0,s,hs,_=>by
  refine zE Tryz.func136 47 ?_;((repeat' (first|refine zS ?_|refine ZA fun Kx hK=>?_|(refine hK _ _ ?_;clear hK)|(apply zV;(focus ((first|(refine ZWb (R:=ArrK 2 RV) (els:=[[]]) ZB8 (ElsD.cons ⟨ZJ (by decide)⟩ ElsD.nil) rfl rfl (fun _=>ZAd) (by simp))|exact ZHe);all_goals infer_instance));exact zQ)|(apply ZB;exact oD;all_goals (intro h;try exact xD))|refine ZVs ?_|refine ZVz ?_));all_goals ((repeat clear hK);repeat clear Kx))
  (refine⟨trivial,_,rfl,?_⟩;refine ZEn ?_)
  simp[ZT]
 | k+1,s,hs,hk=>by
  have ih:=ZKs k;refine zE Tryz.func136 47 ?_;(repeat' (first|refine zS ?_|refine ZA fun Kx hK=>?_|(refine hK _ _ ?_;clear hK)|(apply zV;(focus ((first|exact ZHe);all_goals infer_instance));exact zQ)|(apply ZB;exact oD;all_goals (intro h;try exact xD))|refine ZVr ?_|refine ZVp ?_))
  refine Zn 22 (ArrK 2 RV) ?_;(refine ZV4 (X:=Nat × Value × List (List Vx)) (fun x=>[(5,dX x.2.1),(6,dI (x.1:Int)),(7,dA),(8,dA),(12,dA),(13,dA),(14,dA),(15,dA),(16,dA),(17,dA),(18,dA),(19,dA),(20,dA),(21,dA),(22,dA),(23,dA),(24,dA),(25,dA),(26,dA),(27,dA),(28,dA),(29,dA),(30,dA),(31,dA),(32,dA),(33,dA),(34,dA),(35,dA),(36,dA),(37,dA),(38,dA),(39,dA),(40,dA),(41,dA),(42,dA),(43,dA),(44,dA),(45,dA)]) (fun x=>[Zk x.2.1 22 (ArrK 2 RV) x.2.2]) (fun x=>s.length-x.1) (fun x=>x.1≤s.length/\x.2.2++ZT (k+1) (s.drop x.1)=ZT (k+1) s) (0,.slice none 0 0,[]) ?start ?frame0 ?objs0 ?round)
  case start=>simp
  case frame0=>exact zFr
  case objs0=>rfl
  case round =>
   rintro⟨i,u,o⟩ ⟨h1,h2⟩;dsimp only[ZH,z0,z1];simp only at h1 h2;have hd:(s.drop (i+1)).length≤10:=by rw[List.length_drop];omega
   have ih':=ih (s.drop (i+1)) hd (by omega);((repeat' (first|refine zS ?_|refine ZA fun Kx hK=>?_|(refine hK _ _ ?_;clear hK)|(refine ZV0 ?_;clear hK)|(apply zV;(focus ((first|(apply ZVm (ih') Tryz.call136;exact aD)|(apply ZGB elV (ZVh rfl) (ZVh rfl) (i+1);omega;omega)|exact ZNx|exact ZBg|exact ZLx|exact ZA3);all_goals infer_instance));exact zQ)|(apply ZB;exact oD;all_goals (intro h;try exact xD))|refine ZVr ?_|refine ZVs ?_|refine ZV1 ?_|refine ZVp ?_));all_goals (first|refine WC.id ?_|((repeat clear hK);(repeat clear Kx))))
   ·have hi:i<s.length:=by omega
    have hr:∀x∈ZT k (s.drop (i+1)),x.length=k:=ZDd _ _;rw[ZFp k s i hi] at h2;have hb:(ZT (k+1) s).length≤1024:=Nat.le_trans (ZAo _ _) (Nat.pow_le_pow_right (by decide) hs:2 ^ s.length≤2 ^ 10);have hrl:(ZT k (s.drop (i+1))).length≤1024:=Nat.le_trans (ZAo _ _) (Nat.pow_le_pow_right (by decide) hd:2 ^ (s.drop (i+1)).length≤2 ^ 10);generalize hrest:ZT k (s.drop (i+1))=rest at *;(refine ZV4 (X:=Nat × Value × List (List Vx)) (fun x=>[(5,dX x.2.1),(8,dI (x.1:Int)),(27,dA),(28,dA),(29,dA),(30,dA),(31,dA),(32,dA),(33,dA),(34,dA),(35,dA),(36,dA),(37,dA),(38,dA),(39,dA),(40,dA),(41,dA),(42,dA),(43,dA),(44,dA),(45,dA)]) (fun x=>[Zk x.2.1 22 (ArrK 2 RV) x.2.2]) (fun x=>rest.length-x.1) (fun x=>x.1≤rest.length/\x.2.2++((rest.drop x.1).map (s[i] :: ·)++ZT (k+1) (s.drop (i+1)))=ZT (k+1) s) (0,u,o) ?start ?frame0 ?objs0 ?round)
    case start=>exact⟨Nat.zero_le _,by simpa using h2⟩
    case frame0=>exact zFr
    case objs0=>rfl
    case round =>
     rintro⟨j,u',o'⟩ ⟨h3,h4⟩;dsimp only[ZH,z0,z1];simp only at h3 h4;have ho:o'.length≤1024:=by rw[<- h4] at hb;simp at hb;omega
     ((repeat' (first |  (apply ZWk 12;kernel_rfl;kernel_rfl;simp only[List.take_succ_cons,List.take_zero,List.drop_succ_cons,List.drop_zero])|(refine WRd.nil ?_)|(apply WRd.readL rfl;(focus (intro c hcc;apply ZVt;(exact ZY rfl);((first|(apply SY.fullE;exact elV;((try simp only[List.map_cons,List.map_nil]);(repeat (first|exact Zr|(apply Zp;(first|exact ZVh rfl|exact ZV5|exact ZWE)))));rfl;rfl;decide;(intro _;exact ZBA);(exact(by simp)))|(apply ZCI;exact elV;exact ZVh rfl;exact ZVh rfl;decide;(have:=hr _ (List.getElem_mem (by omega:j<rest.length));simp;omega))|exact ZCX|exact yAssign|exact ZBF|exact ZNx|exact ZHe|exact ZBg|exact ZLx|exact ZDf|exact ZA3|exact ZS|exact ZBQ|exact ySlice|fail);all_goals infer_instance)));dsimp only[ZC,z0,z1])|((first|apply ZVi|apply ZVl);exact yF;dsimp only[ZC,z0,z1])|refine ZVj ?_|refine WD.nil ?_|refine ZA fun Kx hK=>?_|(refine hK _ _ ?_;clear hK)|(refine ZV0 ?_;clear hK)|refine ZVk ?_|(apply ZWB;kernel_rfl;kernel_rfl)|((first|apply Zq|apply Zl);exact eD;exact ZVh rfl;exact oD;(intro _;exact hD);(exact(by simp));(exact(by simp));(first|exact⟨by decide,by decide⟩|skip);decide;exact lD;(intro _;dsimp only[ZC,z0,z1]);all_goals (try infer_instance))|((first|apply ZWW|apply ZWX);exact eD;exact ZVh rfl;exact oD;decide;exact lD;(intro _;dsimp only[ZC,z0,z1]);all_goals (try infer_instance))|((apply(ZWP (List.Perm.swap _ _ _));(first|apply Zq|apply Zl);exact eD;exact ZVh rfl;exact oD;(intro _;exact hD);(exact(by simp));(exact(by simp));(first|exact⟨by decide,by decide⟩|skip);decide;exact lD;(intro _;dsimp only[ZC,z0,z1]);all_goals (try infer_instance)))|((apply(ZWP (List.Perm.swap _ _ _));(first|apply ZWW|apply ZWX);exact eD;exact ZVh rfl;exact oD;decide;exact lD;(intro _;dsimp only[ZC,z0,z1]);all_goals (try infer_instance)))|((first|apply ZVi|apply ZVl);(focus ((first|(apply SY.fullE;exact elV;((try simp only[List.map_cons,List.map_nil]);(repeat (first|exact Zr|(apply Zp;(first|exact ZVh rfl|exact ZV5|exact ZWE)))));rfl;rfl;decide;(intro _;exact ZBA);(exact(by simp)))|(apply ZCI;exact elV;exact ZVh rfl;exact ZVh rfl;decide;(have:=hr _ (List.getElem_mem (by omega:j<rest.length));simp;omega))|exact ZBF|exact ZBg|exact ZA3|exact ZS|exact ZBQ|fail);all_goals infer_instance));dsimp only[ZC,z0,z1])|(apply Zf;exact oD;(with_reducible rfl))|(apply ZQ;exact oD;(with_reducible rfl))|(apply ZB;exact oD;all_goals (intro h;try exact xD))|(apply ZG;exact oD;all_goals (intro h;try exact xD))|(apply ZO;exact oD;all_goals (intro h;try exact xD))|(apply ZWY;exact oD;all_goals (intro h;try exact xD))|refine ZVr ?_|refine ZVs ?_|refine ZV1 ?_|refine ZVp ?_|refine ZVx ?_|refine ZVz ?_|refine ThenD.x ?_|refine InBlockD.x ?_|refine ZWc ?_|refine ZWC ?_|refine ZCw (by decide) ?_));all_goals (first|refine WC.id ?_|refine WL.id ?_|((repeat clear hK);(repeat clear Kx))))
     ·have hj:j<rest.length:=by omega
      (refine zNx (j+1,_,_) ?_;(try dsimp only))
      refine⟨by omega,?_⟩;rw[<- h4,Zv hj];simp only[List.map_cons,List.append_assoc,List.cons_append,List.nil_append]
     ·rw[List.drop_of_length_le (by omega)] at h4;(refine zNx (i+1,_,_) ?_;(try dsimp only))
      exact⟨by omega,by simpa using h4⟩
   ·(refine⟨trivial,_,rfl,?_⟩;refine ZDl (.head _) ?_)
    rw[<- h2,ZAh _ _ (by rw[List.length_drop];omega)];simp

end
end Go.Proofs.YtofkoleingbbpaaGreatDoor
namespace Go.Proofs.YtofkoleingbbpaaGreatDoor.M
section
open Go.RowKit
open Go.RowKit





open Go.RowKit

section
variable {P:Program} {ops:Array Oper} {hp:List HObj} {o:Oper} {fr:List Dat} {d:Dat} {Q:Z4} {rest:List Oper}
variable {dst:Option Tmp} {ty:TypeId} {ps:String} {af:Array Edge} {g:Option (Nat × Bool)}


theorem ZEn {α:Type} {R:Rel α} {_gR:Good R} {x y:α} (h:x=y):FinD hp (dS R x) (dS R y):=FinD.le (ZLb (by rw[h]))
end


open Go.RowKit

section
variable {P:Program} {ops:Array Oper} {hp:List HObj} {o:Oper} {fr:List Dat} {d:Dat} {Q:Z4} {rest:List Oper}
variable {dst:Option Tmp} {ty:TypeId} {ps:String} {af:Array Edge} {g:Option (Nat × Bool)}

end



open Go.RowKit

end
end Go.Proofs.YtofkoleingbbpaaGreatDoor.M
namespace Go.Proofs.YtofkoleingbbpaaGreatDoor
section
theorem ZDs {l out:Cx} {k:Nat} (h:k<l.length):(l.take (k+1)).foldl ZCb out=ZCb ((l.take k).foldl ZCb out) l[k]:=by rw[Ze h,List.foldl_append];rfl
theorem ZEh:∀(l:Cx) (s:List Vx) (k:Nat),k≤l.length->(∀x∈l.take k,¬ ZAa s x<0)->ZFJ l s=l.take k++ZFJ (l.drop k) s
 | l,s,0,_,_=>by simp
 | [],s,k+1,h,_=>by simp at h
 | x::l,s,k+1,h,hx=>by
  have h1:¬ ZAa s x<0:=hx x (by simp);rw[List.take_succ_cons,List.drop_succ_cons]
  conv=>lhs;unfold ZFJ
  rw[if_neg h1,ZEh l s k (by simpa using h) (fun y hy=>hx y (by simp[hy]))];rfl
theorem ZIm {l:Cx} {s:List Vx} {k:Nat} (h:k<l.length) (hx:∀x∈l.take k,¬ ZAa s x<0) (hk:ZAa s l[k]<0):ZFJ l s=l.take k++s::l.drop k:=by
 rw[ZEh l s k (by omega) hx,Zv h]
 conv=>lhs;unfold ZFJ
 rw[if_pos hk]
theorem ZIn {l:Cx} {s:List Vx} (hx:∀x∈l,¬ ZAa s x<0):ZFJ l s=l++[s]:=by
 have:=ZEh l s l.length (Nat.le_refl _) (by rwa[List.take_length]);rw[this,List.take_length,List.drop_length];rfl
end
section
theorem ZGm {a:Nat} (h:a<9223372036854775808):(BitVec.ofInt 64 (a:Int)).toNat=a:=by
 rw[BitVec.ofInt_natCast,BitVec.toNat_ofNat];exact Nat.mod_eq_of_lt (by omega)
theorem ZHY {a:Nat} (h:a<9223372036854775808):IntKind.i64.wrap (a:Int)=(a:Int):=ZCq (by omega)
theorem ZT7 {a b:Nat} (ha:a<9223372036854775808) (hb:b<9223372036854775808):a ||| b<9223372036854775808 :=
 Nat.or_lt_two_pow (n:=63) ha hb
theorem ZIq {a b:Nat} (ha:a<9223372036854775808) (hb:b<9223372036854775808):ior (a:Int) (b:Int)=((a ||| b:Nat):Int):=by
 unfold ior;rw[BitVec.toNat_or,ZGm ha,ZGm hb];exact ZHY (ZT7 ha hb)
end
section
open Go.RowKit

def twI (l:Cx) (i k:Nat):Bool:=decide (i≠k) && Z8 (l.getD i []) (l.getD k [])
theorem ZGo (l:Cx):Fn Tryz.prog 48 [dS Cpx l] (dI (ZBC l)):=by
 refine zE Tryz.func48 68 ?_;((repeat' (first|refine zS ?_|refine ZA fun Kx hK=>?_|(refine hK _ _ ?_;clear hK)|((first|apply ZF|apply WD.op);(focus (first|exact wN|(apply ZVt;exact wY;((first|exact ZFM|exact ZA3|exact Z2|exact ZEL|fail);all_goals infer_instance))));dsimp only[ZC,z0,z1])|(apply ZB;exact oD;all_goals (intro h;try exact xD))|refine ZVr ?_|refine ZVs ?_|refine ZVp ?_|refine ZVz ?_));all_goals (first|refine WC.id ?_|((repeat clear hK);(repeat clear Kx))))
 ·(refine⟨trivial,_,rfl,?_⟩;refine ZWH ?_)
  unfold ZBC;rw[if_pos (by omega)]
 ·have hs:ZBC l=if ZEe none l≠0 then ZEe none l else if ZB3 l=true then 7 else 0:=by unfold ZBC;rw[if_neg (by omega)]
  (refine ZV4 (X:=Nat) (fun k=>[(4,dI (k:Int)),(2,dA),(5,dA),(13,dA),(14,dA),(15,dA),(16,dA),(17,dA),(18,dA),(19,dA),(20,dA),(21,dA),(22,dA),(23,dA),(24,dA),(25,dA),(26,dA),(27,dA),(28,dA),(29,dA),(30,dA),(31,dA),(32,dA),(33,dA),(34,dA),(35,dA),(36,dA),(37,dA),(38,dA),(39,dA),(40,dA),(41,dA)]) (fun k=>[]) (fun k=>l.length-k) (fun k=>k≤l.length/\ZEe none l=ZEe (l.take k).getLast? (l.drop k)) 0 ?start ?frame0 ?objs0 ?round)
  case start=>exact⟨Nat.zero_le _,rfl⟩
  case frame0=>exact zFr
  case objs0=>rfl
  case round =>
   rintro k ⟨h3,h4⟩;dsimp only[ZH,z0,z1];((repeat' (first|refine zS ?_|refine WD.nil ?_|refine ZA fun Kx hK=>?_|(refine hK _ _ ?_;clear hK)|(refine ZV0 ?_;clear hK)|(apply ZWB;kernel_rfl;kernel_rfl)|((first|apply ZF|apply WD.op);(focus (first|exact wN|(apply ZVt;exact wY;((first|(apply ZVm (ZHv _ _) Tryz.call77;exact aD)|(apply ZVm (ZRd _) Tryz.call53;exact aD)|(apply ZOC ZB8 (ZVh rfl) (ZVh rfl) (k-1);omega;omega)|exact ZCX|exact ZBF|exact ZFM|exact ZNw|exact ZEm|exact ZBg|exact ZLx|exact ZDf|exact ZA3|exact ZS|exact ZCV|fail);all_goals infer_instance))));dsimp only[ZC,z0,z1])|((first|refine ZM rfl rfl rfl (fun h=>?_) (fun h=>?_)|refine ZL rfl rfl rfl (fun h=>?_) (fun h=>?_)|refine ZK rfl rfl rfl (fun h=>?_) (fun h=>?_)|refine Za rfl rfl rfl (fun h=>?_) (fun h=>?_)|refine ZX rfl rfl rfl (fun h=>?_) (fun h=>?_)|refine ZV rfl rfl rfl (fun h=>?_) (fun h=>?_)) <;> (first|(exfalso;first|omega|contradiction)|(dsimp only[z0,z1])))|(apply ZQ;exact oD;(with_reducible rfl))|(apply ZB;exact oD;all_goals (intro h;try exact xD))|(apply ZG;exact oD;all_goals (intro h;try exact xD))|refine ZVr ?_|refine ZVs ?_|refine ZV1 ?_|refine ZVp ?_|refine ZVx ?_|refine ZVz ?_|refine ZWC ?_));all_goals (first|refine WC.id ?_|((repeat clear hK);(repeat clear Kx))))
   all_goals try (rw[ZGs l k (by omega)] at h4)
   ·(refine⟨trivial,_,rfl,?_⟩;refine ZWH ?_)
    rw[hs,h4,if_pos h,if_pos h]
   ·(refine⟨trivial,_,rfl,?_⟩;refine ZWH ?_)
    have h5:¬ ZAC l[k]≠0:=by omega
    rw[if_neg h5,ZCE _ _ (by omega) (by omega),if_pos (by simpa using h)] at h4;rw[hs,h4];rfl
   ·(refine zNx (k+1) ?_;(try dsimp only))
    refine⟨by omega,?_⟩;have h5:¬ ZAC l[k]≠0:=by omega
    rw[h4,if_neg h5,ZCE _ _ (by omega) (by omega),if_neg (by simpa using h)]
   ·(refine zNx (k+1) ?_;(try dsimp only))
    refine⟨by omega,?_⟩;have h5:¬ ZAC l[k]≠0:=by omega
    have h0:(l.take k).getLast?=none:=by
     have:k=0:=by omega
     rw[this];rfl
    rw[h4,if_neg h5,h0];rfl
   ·rw[List.drop_of_length_le (by omega)] at h4;have h4':ZEe none l=0:=h4;have hs':ZBC l=if ZB3 l=true then 7 else 0:=by rw[hs,if_neg (by omega)]
    clear hs h4;(refine ZV4 (X:=Nat) (fun i=>[(6,dI (i:Int)),(2,dA),(7,dA),(42,dA),(43,dA),(44,dA),(45,dA),(46,dA),(47,dA),(48,dA),(49,dA),(50,dA),(51,dA),(52,dA),(53,dA),(54,dA),(55,dA),(56,dA),(57,dA),(58,dA),(59,dA),(60,dA),(61,dA),(62,dA),(63,dA),(64,dA),(65,dA),(66,dA),(67,dA)]) (fun i=>[]) (fun i=>l.length-i) (fun i=>i≤l.length/\(List.range i).any (fun i=>(List.range l.length).any (twI l i))=false) 0 ?start ?frame0 ?objs0 ?round)
    case start=>exact⟨Nat.zero_le _,rfl⟩
    case frame0=>exact zFr
    case objs0=>rfl
    case round =>
     rintro i ⟨h5,h6⟩;dsimp only[ZH,z0,z1];((repeat' (first|refine zS ?_|refine ZA fun Kx hK=>?_|(refine hK _ _ ?_;clear hK)|(refine ZV0 ?_;clear hK)|((first|apply ZF|apply WD.op);(focus (first|exact wN|(apply ZVt;exact wY;((first|exact ZBF|exact ZA3|fail);all_goals infer_instance))));dsimp only[ZC,z0,z1])|(apply ZB;exact oD;all_goals (intro h;try exact xD))|refine ZVr ?_|refine ZVs ?_|refine ZV1 ?_|refine ZVp ?_));all_goals (first|refine WC.id ?_|((repeat clear hK);(repeat clear Kx))))
     ·(refine ZV4 (X:=Nat) (fun j=>[(7,dI (j:Int)),(2,dA),(48,dA),(49,dA),(50,dA),(51,dA),(52,dA),(53,dA),(54,dA),(55,dA),(56,dA),(57,dA),(58,dA),(59,dA),(60,dA),(61,dA),(62,dA),(63,dA),(64,dA),(65,dA),(66,dA),(67,dA)]) (fun j=>[]) (fun j=>l.length-j) (fun j=>j≤l.length/\(List.range j).any (twI l i)=false) 0 ?start ?frame0 ?objs0 ?round)
      case start=>exact⟨Nat.zero_le _,rfl⟩
      case frame0=>exact zFr
      case objs0=>rfl
      case round =>
       rintro j ⟨h7,h8⟩;dsimp only[ZH,z0,z1];((repeat' (first|refine zS ?_|refine WD.nil ?_|refine ZA fun Kx hK=>?_|(refine hK _ _ ?_;clear hK)|(refine ZV0 ?_;clear hK)|(apply ZWB;kernel_rfl;kernel_rfl)|((first|apply ZF|apply WD.op);(focus (first|exact wN|(apply ZVt;exact wY;((first|(apply ZVm (ZEE _ _) Tryz.call87;exact aD)|exact ZCX|exact ZBF|exact ZEm|exact ZBg|exact ZDf|exact ZA3|exact ZS|exact ZCV|fail);all_goals infer_instance))));dsimp only[ZC,z0,z1])|((first|refine ZM rfl rfl rfl (fun h=>?_) (fun h=>?_)|refine ZL rfl rfl rfl (fun h=>?_) (fun h=>?_)|refine ZK rfl rfl rfl (fun h=>?_) (fun h=>?_)|refine Za rfl rfl rfl (fun h=>?_) (fun h=>?_)|refine ZX rfl rfl rfl (fun h=>?_) (fun h=>?_)|refine ZV rfl rfl rfl (fun h=>?_) (fun h=>?_)) <;> (first|(exfalso;first|omega|contradiction)|(dsimp only[z0,z1])))|(apply ZQ;exact oD;(with_reducible rfl))|(apply ZB;exact oD;all_goals (intro h;try exact xD))|(apply ZWY;exact oD;all_goals (intro h;try exact xD))|refine ZVr ?_|refine ZVs ?_|refine ZV1 ?_|refine ZVp ?_|refine ZVx ?_|refine ZVz ?_|refine ZWC ?_));all_goals ((repeat clear hK);repeat clear Kx))
       ·(refine⟨trivial,_,rfl,?_⟩;refine ZWH ?_)
        have e:twI l i j=true:=by
         unfold twI;rw[ZBz (by omega),ZBz (by omega),h,decide_eq_true (by omega)];rfl
        rw[hs',if_pos (show ZB3 l=true from ZEd (k:=i) (by omega) (ZEd (k:=j) (by omega) e))]
       ·(refine zNx (j+1) ?_;(try dsimp only))
        refine⟨by omega,?_⟩;rw[ZBH,h8];unfold twI;rw[ZBz (by omega),ZBz (by omega),h,Bool.and_false];rfl
       ·(refine zNx (j+1) ?_;(try dsimp only))
        refine⟨by omega,?_⟩;rw[ZBH,h8];unfold twI;rw[decide_eq_false (by omega)];rfl
       ·rw[show j=l.length by omega] at h8;(refine zNx (i+1) ?_;(try dsimp only))
        refine⟨by omega,?_⟩;rw[ZBH,h6,h8];rfl
     ·rw[show i=l.length by omega] at h6;(refine⟨trivial,_,rfl,?_⟩;refine ZWH ?_)
      have e:ZB3 l=false:=h6;rw[hs',e];rfl
end
end Go.Proofs.YtofkoleingbbpaaGreatDoor
