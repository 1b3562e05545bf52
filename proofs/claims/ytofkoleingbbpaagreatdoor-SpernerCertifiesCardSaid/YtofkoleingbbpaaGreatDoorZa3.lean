/- Part 3 of the proof. -/
import Derived.Test.YtofkoleingbbpaaGreatDoorZa2
set_option linter.all false
set_option maxRecDepth 100000
set_option maxHeartbeats 64000000
namespace Go.Proofs.YtofkoleingbbpaaGreatDoor
section
open Go.RowKit

section
variable {P:Program} {ops:Array Oper} {hp:List HObj} {o:Oper} {fr:List Dat} {d:Dat} {Q:Z4} {rest:List Oper}
variable {dst:Option Tmp} {ty:TypeId} {ps:String} {af:Array Edge} {g:Option (Nat × Bool)}

theorem WL.alloc {T:TypeId} {n:Nat} {agg:Bool} {z:Value} (hz:TyZ P T z) (hs:(dX z).Shape n agg)
  (h:∀b,WL P ops Q rest (ZC fr dst (dX (.pointer (some ⟨b,0,none⟩)))) (Zm b T n agg (dX z)::hp)):WL P ops Q (⟨dst,.alloc T,ty,ps,af,none⟩::rest) fr hp:=by
 refine WL.of fun P0 B w0 w a hh hf=>?_;obtain⟨cs,k1,k0,k2,k3,k4⟩:=hs (fun _=>True) w z rfl;have hrun:(execOp a.eval ⟨dst,.alloc T,ty,ps,af,none⟩).run P w = .ok (.value (.pointer (some ⟨w.heap.size,0,none⟩))) (w.alloc (.cells cs.toArray T)):=by
  cases hq:P.info? T with
  | none=>have:=hz.out;simp[hq] at this
  | some i =>
   have hz':i.zero=some z:=by have:=hz.out;simpa[hq] using this
   unfold execOp;simp[Instr.alloc,zeroValue,typeInfo,hq,hz',newVar,newRow,k3]
 refine Zo rfl hrun ?_;have hx:=ZWU w (.cells cs.toArray T);have hb:∀k,(Zm w.heap.size T n agg (dX z)).blk=some k->w.heap.size≤k/\k<(w.alloc (.cells cs.toArray T)).heap.size:=fun k hk=>by
  cases hk;exact⟨Nat.le_refl _,by simp⟩
 refine(h w.heap.size).on (hh.push hx hb ⟨cs,z,Zw w _,k1,k0,k2,k4,rfl⟩) ?_;exact ZWN (hf.mono fun d _ hd=>ZAJ hx (fun k hk=>(hb k hk).1) hd) rfl

theorem ZDG {T T2:TypeId} {n:Nat} {w:World} {b:Nat} {cs cs':List Value} {u:Value} (hT:(P.info? T).map (·.size)=some n) (hg:w.heap[b]?=some (.cells cs.toArray T2)) (h1:cs.length=n) (h2:cs'.length=n) (h3:∀c∈cs',c.oneCell'=true) (hu:u.cells=cs'.toArray) :
  (Instr.storeAt T (.pointer (some ⟨b,0,none⟩)) u).run P w = .ok () (w.setRow b cs'.toArray):=by
 have h:=run_storeVar_row (P:=P) w b T2 T cs.toArray cs'.toArray hg (by simpa[h2] using hT) (by simp[h1,h2]) (by
  rw[Array.all_eq_true_iff_forall_mem];intro v hv;exact h3 v (by simpa using hv))
 have e:storeVar T ⟨b,0,none⟩ u=storeVar T ⟨b,0,none⟩ (.agg cs'.toArray):=by
  unfold storeVar;rw[hu];rfl
 simp[Instr.storeAt,Instr.sureAddr,e,h]
theorem ZAM {w:World} {b:Nat} {cs:Array Value}:w.grownBy (w.setRow b cs) (some b):=by
 refine⟨rfl,rfl,rfl,by simp[World.setRow],fun k hk hne=>?_⟩;simp only[World.setRow,Array.getElem?_modify];rw[if_neg (fun e=>hne (by rw[e]))]

theorem ZC2 {x:Operand} {t b n:Nat} {T T2:TypeId} {agg:Bool} {d0:Dat} (hT:TyI P T n agg) (hp0:OpD fr (.tmp t) (dX (.pointer (some ⟨b,0,none⟩)))) (hx:OpD fr x d) (hs:d.Shape n agg)
  (h:WL P ops Q rest (ZC fr dst (dX undef)) (Zm b T2 n agg d::hp)):WL P ops Q (⟨dst,.store T (.tmp t) x,ty,ps,af,none⟩::rest) fr (Zm b T2 n agg d0::hp):=by
 refine WL.of fun P0 B w0 w a hh hf=>?_;obtain⟨cs,u,c1,c2,c0,c3,c4,c5⟩:=hh.ok (Zm b T2 n agg d0) (by simp);have h1:=hx.ev hf;obtain⟨cs',k1,k0,k2,k3,k4⟩:=hs _ _ _ h1;have h2:a.eval (.tmp t) = .pointer (some ⟨b,0,none⟩):=hp0.ev hf;have hr:=ZDG (u:=a.eval x) hT.size c1 c2 k1 k2 k3;have hrun:(execOp a.eval ⟨dst,.store T (.tmp t) x,ty,ps,af,none⟩).run P w = .ok .skip (w.setRow b cs'.toArray):=by
  unfold execOp;simp only[h2,Sem.run_bind,hr,Result.andThen_ok,Sem.run_pure]
 refine wpList_plain rfl fun K hK=>?_;unfold Oper.wp;rw[hrun];have hgr:w.grownBy (w.setRow b cs'.toArray) (Zm b T2 n agg d0).blk:=ZAM;have hok:(Zm b T2 n agg d).ok (fun k=>Imm P0 B (Zm b T2 n agg d0::hp) k/\k<w.heap.size) (w.setRow b cs'.toArray) :=
  ⟨cs',a.eval x,setRow_heap w b _ _ _ _ c1,k1,k0,k2,k4,d.grown (d.bound h1) hgr (fun k hk hc=>hc.1.2 _ (by simp) hk)⟩
 exact hK _ _ (h.on (hh.write hgr (.inl rfl) hok) (ZWN (hf.mono fun _ _ hd=>Zd (o':=Zm b T2 n agg d) hgr (.inl rfl) hd) (d:=dX undef) rfl))
theorem ZGg {t b n:Nat} {T:TypeId} {agg:Bool} (hp0:fr[t]?=some (dX (.pointer (some ⟨b,0,none⟩)))) (h:WL P ops Q rest (fr.set t (dP n agg d)) hp):WL P ops Q rest fr (Zm b T n agg d::hp):=by
 refine WL.of fun P0 B w0 w a hh hf=>?_;obtain⟨cs,u,c1,c2,c0,c3,c4,c5⟩:=hh.ok (Zm b T n agg d) (by simp);have hown:=hh.own (Zm b T n agg d) (by simp) b rfl;refine h.on hh.drop ⟨hf.defers,by rw[hf.size,List.length_set],fun t' d' hd'=>?_⟩;by_cases htt:t=t'
 ·subst htt;rw[List.getElem?_set] at hd';simp only[if_true] at hd';split at hd'
  ·cases hd';have hv:a.tmps.getD t undef = .pointer (some ⟨b,0,none⟩):=hf.rd t _ hp0;rw[hv];refine⟨b,0,u,rfl,ZA6 c1 c2 c0 c3 c4 ⟨.inr hown.1,fun o' ho' hk=>?_⟩,d.weak c5 ZWZ⟩;exact(List.pairwise_cons.1 hh.apart).1 o' ho' b rfl hk
  ·cases hd'
 ·rw[List.getElem?_set_ne htt] at hd';exact d'.weak (hf.rd t' d' hd') ZWZ
theorem ZR {x:Operand} {t b n:Nat} {T T2:TypeId} {agg:Bool} {d0:Dat} (hT:TyI P T n agg) (hp0:fr[t]?=some (dX (.pointer (some ⟨b,0,none⟩)))) (hx:OpD fr x d) (hs:d.Shape n agg)
  (h:WL P ops Q rest (fr.set t (dP n agg d)) hp):WL P ops Q (⟨none,.store T (.tmp t) x,ty,ps,af,none⟩::rest) fr (Zm b T2 n agg d0::hp) :=
 ZC2 hT (ZVh hp0) hx hs (ZGg hp0 h)
theorem ZCC {x:Operand} {t b n:Nat} {T T2:TypeId} {agg:Bool} {d0:Dat} {o1:HObj} (hT:TyI P T n agg) (hp0:fr[t]?=some (dX (.pointer (some ⟨b,0,none⟩)))) (hx:OpD fr x d) (hs:d.Shape n agg)
  (h:WL P ops Q rest (fr.set t (dP n agg d)) (o1::hp)):WL P ops Q (⟨none,.store T (.tmp t) x,ty,ps,af,none⟩::rest) fr (o1::Zm b T2 n agg d0::hp) :=
 ZWP (List.Perm.swap _ _ _) (ZR hT hp0 hx hs h)
theorem ZPU (off:Nat):∀(cs t1:List Value) (j:Nat) (pre t2:List Value),cs.length=t1.length->pre.length=off+j ->
  (cs.zipIdx j).foldl (fun(A:Array Value) (p:Value × Nat)=>A.setIfInBounds (off+p.2) p.1) (pre++t1++t2).toArray=(pre++cs++t2).toArray
 | [],t1,j,pre,t2,h,_=>by
  have:t1=[]:=List.eq_nil_of_length_eq_zero (by simpa using h.symm);subst this;simp
 | c::cs,[],j,pre,t2,h,_=>by simp at h
 | c::cs,x::t1,j,pre,t2,h,hp=>by
  rw[List.zipIdx_cons,List.foldl_cons];have e:(pre++x::t1++t2).toArray.setIfInBounds (off+j) c=((pre++[c])++t1++t2).toArray:=by
   rw[<- hp];simp
  simp only[e];rw[ZPU off cs t1 (j+1) (pre++[c]) t2 (by simpa using h) (by simp[hp];omega)];simp
theorem ZMN (n:Nat):∀(css:List (List Value)) (us:List Value) (k:Nat) (pre tail:List Value),us.length=css.length->(∀(i:Nat) (u:Value) (cs:List Value),us[i]?=some u->css[i]?=some cs->u.cells=cs.toArray/\cs.length=n)->pre.length=k*n->tail.length=css.length*n ->
  Instr.fill (fun i=>some (i*n,n)) (pre++tail).toArray ((us.zipIdx k).map fun p=>(p.2,p.1))=some (pre++css.flatten).toArray
 | [],us,k,pre,tail,h,_,_,ht=>by
  have h1:us=[]:=List.eq_nil_of_length_eq_zero (by simpa using h);have h2:tail=[]:=List.eq_nil_of_length_eq_zero (by simpa using ht);subst h1;subst h2;simp[Instr.fill]
 | cs::css,[],k,pre,tail,h,_,_,_=>by simp at h
 | cs::css,u::us,k,pre,tail,h,hc,hp,ht=>by
  obtain⟨h1,h2⟩:=hc 0 u cs rfl rfl;have ht':tail.length=n+css.length*n:=by rw[ht];simp[Nat.add_mul];omega
  have e:tail=tail.take n++tail.drop n:=(List.take_append_drop n tail).symm;rw[List.zipIdx_cons,List.map_cons];unfold Instr.fill;have hs:u.cells.size=n:=by rw[h1];simpa using h2
  simp only;rw[if_neg (by simp[hs,hp,ht'])];have hf:=ZPU (k*n) cs (tail.take n) 0 pre (tail.drop n) (by rw[List.length_take];omega) (by omega);rw[List.append_assoc,<- e] at hf;have hz:u.cells.zipIdx.foldl (fun(A:Array Value) (x:Value × Nat)=>A.setIfInBounds (k*n+x.2) x.1) (pre++tail).toArray=(pre++cs++tail.drop n).toArray:=by
   rw[h1,<- hf];simp
  have hz':(u.cells.zipIdx.foldl (fun(cs:Array Value) x=>match x with|(c,j)=>cs.setIfInBounds (k*n+j) c) (pre++tail).toArray)=(pre++cs++tail.drop n).toArray:=hz;rw[hz'];rw[ZMN n css us (k+1) (pre++cs) (tail.drop n) (by simpa using h) (fun i v c hv hcs=>hc (i+1) v c (by simpa using hv) (by simpa using hcs)) (by simp[hp,h2,Nat.add_mul]) (by rw[List.length_drop];omega)];simp
theorem ZBT {t e:TypeId} {n bytes:Nat} {z:Value} {ag:Bool} (E:ElT P t e n z bytes ag) {us:List Value} {css:List (List Value)} (hl:us.length=css.length) (hc:∀(i:Nat) (u:Value) (cs:List Value),us[i]?=some u->css[i]?=some cs->u.cells=cs.toArray/\cs.length=n) (hsm:us.length*n≤16777216) {w:World} :
  (Instr.buildSlice t us.length ((us.zipIdx.map fun p=>(p.2,p.1)).toArray)).run P w = .ok (.slice (some ⟨w.heap.size,0,none⟩) us.length us.length) (w.alloc (.cells css.flatten.toArray e)):=by
 obtain⟨i,hi,hz,hs,hb⟩:=info_parts E.info;have key:∀A:Array Value,A.size=us.length*n->Instr.fill (fun i=>some (i*n,n)) A (us.zipIdx.map fun p=>(p.2,p.1))=some css.flatten.toArray:=fun A hA=>by
  have:=ZMN n css us 0 [] A.toList hl hc (by simp) (by simpa[hl] using hA);simpa using this
 by_cases h0:us.length*n=0
 ·simp[Instr.buildSlice,run_underlying E.und,sizeOf,typeInfo,hi,hs,newRow,h0];rw[key _ (by simp[h0])];simp
 ·have hns:¬ (16777216<us.length*n):=by omega
  simp[Instr.buildSlice,run_underlying E.und,sizeOf,typeInfo,hi,hs,zeroValue,hz,newRow,h0,hns];rw[key _ (by simp)];simp

theorem ZAv {css:List (List Value)} {n:Nat} (h:∀cs∈css,cs.length=n):css.flatten.length=css.length*n:=by
 induction css with
 | nil=>simp
 | cons c css ih =>
  simp only[List.flatten_cons,List.length_append,List.length_cons];rw[ih (fun x hx=>h x (by simp[hx])),h c (by simp),Nat.add_mul];omega
inductive ElsD {α:Type} (fr:List Dat) (R:Rel α) [Good R]:List Operand->List α->Prop
 | nil:ElsD fr R [] []
 | cons {x:Operand} {xs:List Operand} {a:α} {as1:List α}:OpD fr x (dS R a)->ElsD fr R xs as1->ElsD fr R (x::xs) (a::as1)
theorem ElsD.out {α:Type} {R:Rel α} [Good R] {xs:List Operand} {as1:List α} (h:ElsD fr R xs as1):xs.length=as1.length/\∀(i:Nat) (x:Operand) (b:α),xs[i]?=some x->as1[i]?=some b->OpD fr x (dS R b):=by
 induction h with
 | nil=>exact⟨rfl,fun i x b h=>by simp at h⟩
 | cons h _ ih =>
  refine⟨by simp[ih.1],fun i x b hx hb=>?_⟩;cases i with
  | zero=>simp at hx hb;subst hx;subst hb;exact h
  | succ i=>exact ih.2 i x b (by simpa using hx) (by simpa using hb)
theorem ZBS {t e:TypeId} {n bytes:Nat} {z:Value} {ag:Bool} (E:ElT P t e n z bytes ag) {agg:Bool} {α:Type} {R:Rel α} [Good R] {len:Nat} {parts:Array (Nat × Operand)} {xs:List Operand} {as1:List α} (hx:ElsD fr R xs as1) (hl:len=as1.length) (hparts:parts.toList=(xs.zipIdx).map (fun p=>(p.2,p.1))) (hs:∀a,(dS R a).Shape n agg) (hsm:as1.length*n≤16777216)
  {P0:Nat->Prop} {B:Nat} {w0 w:World} {a:Act} (_hh:Hp P0 B w0 hp w) (ho:On ((⟨dst,.buildSlice t len parts,ty,ps,af,g⟩:Oper).looksAt ops) (Imm P0 B hp) w a fr) :
  ∃css:List (List Value),(execOp a.eval ⟨dst,.buildSlice t len parts,ty,ps,af,g⟩).run P w = .ok (.value (.slice (some ⟨w.heap.size,0,none⟩) as1.length as1.length)) (w.alloc (.cells css.flatten.toArray e))/\css.length=as1.length/\(∀cs∈css,cs.length=n/\∀c∈cs,c.oneCell'=true) /\
   ∀(k:Nat) (cs:List Value) (b:α),css[k]?=some cs->as1[k]?=some b->∃u,(if agg then u = .agg cs.toArray else cs=[u])/\R (Imm P0 B hp) w u b:=by
 obtain⟨hlen,hget⟩:=hx.out;have hmem:∀x∈xs,x∈(Op.buildSlice t len parts).operands.toList:=fun x hxm=>by
  simp only[Op.operands,hparts,List.map_map];have:(Prod.snd ∘ fun p:Operand × Nat=>(p.2,p.1))=Prod.fst:=rfl;rw[this,List.zipIdx_map_fst];simpa using hxm
 have hch:∀k:Nat,∃cs:List Value,∀(x:Operand) (b:α),xs[k]?=some x->as1[k]?=some b->cs.length=n/\(∀c∈cs,c.oneCell'=true)/\(a.eval x).cells=cs.toArray/\(if agg then a.eval x = .agg cs.toArray else cs=[a.eval x])/\R (Imm P0 B hp) w (a.eval x) b:=fun k=>by
  by_cases hk:k<xs.length
  ·have hk':k<as1.length:=by omega
   have hr:=(hget k xs[k] as1[k] (List.getElem?_eq_getElem hk) (List.getElem?_eq_getElem hk')).get (hmem _ (List.getElem_mem hk)) ho;obtain⟨cs,k1,k0,k2,k3,k4⟩:=hs as1[k] _ _ _ hr;refine⟨cs,fun x b hx hb=>?_⟩;rw[List.getElem?_eq_getElem hk] at hx;rw[List.getElem?_eq_getElem hk'] at hb;cases hx;cases hb;exact⟨k1,k2,k3,k4,hr⟩
  ·exact⟨[],fun x b hx=>by rw[List.getElem?_eq_none (by omega)] at hx;cases hx⟩
 obtain⟨f,hf⟩:=Classical.axiomOfChoice hch;have hfk:∀k:Nat,k<xs.length->(f k).length=n/\(∀c∈f k,c.oneCell'=true)/\(a.eval (xs.getD k default)).cells=(f k).toArray:=fun k hk=>by
  have hk':k<as1.length:=by omega
  obtain⟨q1,q2,q3,_⟩:=hf k xs[k] as1[k] (List.getElem?_eq_getElem hk) (List.getElem?_eq_getElem hk');exact⟨q1,q2,by simpa[List.getD,hk] using q3⟩
 refine⟨(List.range xs.length).map f,?_,by simp[hlen],?_,?_⟩
 ·have:=ZBT (w:=w) E (us:=xs.map a.eval) (css:=(List.range xs.length).map f) (by simp) (fun i u cs hu hcs=>by
   have hi:i<xs.length:=by
    have:=(List.getElem?_eq_some_iff.1 hu).1;simpa using this
   rw[List.getElem?_map,List.getElem?_eq_getElem hi] at hu;rw[List.getElem?_map,List.getElem?_range hi] at hcs;cases hu;cases hcs;have:=hfk i hi;exact⟨by simpa[List.getD,hi] using this.2.2,this.1⟩) (by simpa[hlen] using hsm)
  have hp2:(parts.map fun p=>(p.1,a.eval p.2))=(((xs.map a.eval).zipIdx).map fun p=>(p.2,p.1)).toArray:=by
   apply Array.ext';rw[Array.toList_map,hparts,List.zipIdx_map];simp[Function.comp_def]
  unfold execOp;simp only;have hp3:(parts.map fun x=>match x with|(i,x)=>(i,a.eval x))=(((xs.map a.eval).zipIdx).map fun p=>(p.2,p.1)).toArray:=hp2;rw[hp3];subst hl;have hl2:(xs.map a.eval).length=as1.length:=by simp[hlen]
  rw[hl2] at this;simp only[Sem.run_bind,this,Result.andThen_ok,Sem.run_pure]
 ·intro cs hcs;simp only[List.mem_map,List.mem_range] at hcs;obtain⟨k,hk,rfl⟩:=hcs;exact⟨(hfk k hk).1,(hfk k hk).2.1⟩
 ·intro k cs b hcs hb;have hk':k<as1.length:=(List.getElem?_eq_some_iff.1 hb).1;have hk:k<xs.length:=by omega
  rw[List.getElem?_map,List.getElem?_range hk] at hcs;cases hcs;obtain⟨q1,q2,q3,q4,q5⟩:=hf k xs[k] b (List.getElem?_eq_getElem hk) hb;exact⟨_,q4,q5⟩
theorem SY.buildK {t e:TypeId} {n bytes:Nat} {z:Value} {ag:Bool} (E:ElT P t e n z bytes ag) {α:Type} {R:Rel α} [Good R] {len:Nat} {parts:Array (Nat × Operand)} {xs:List Operand} {as1:List α} (hx:ElsD fr R xs as1) (hparts:parts.toList=(xs.zipIdx).map (fun p=>(p.2,p.1))) (hl:len=as1.length) (hn:0<n) (hs:∀a,(dS R a).Shape n true) (hsm:as1.length*n≤16777216) :
  SY P ops hp ⟨dst,.buildSlice t len parts,ty,ps,af,g⟩ fr (dS (ArrK n R) as1):=ZAG fun {P0 B w0 w a} hh ho=>by
 obtain⟨css,hr,hcl,hcn,hel⟩:=ZBS E hx hl hparts hs hsm hh ho;refine⟨_,_,hr,ZWU _ _,some ⟨w.heap.size,0,none⟩,as1.length,rfl,Nat.le_refl _,by simp only[maxLen];have:as1.length*1≤as1.length*n:=Nat.mul_le_mul_left _ hn;omega,hn,fun k hk=>?_⟩;have hkc:k<css.length:=by omega
 obtain⟨u,hu,hR⟩:=hel k css[k] as1[k] (List.getElem?_eq_getElem hkc) (List.getElem?_eq_getElem hk);simp only[if_true] at hu;subst hu;have hm:=hcn css[k] (List.getElem_mem hkc);refine⟨css[k],w.heap.size,0,Good.ext (R:=R) hR (ZWU _ _),hm.1,hm.2,rfl,hh.fresh (Nat.le_refl _),fun j c hc=>?_⟩;rw[cell_of_row _ _ _ _ _ _ (Zw w _),Nat.zero_add];simpa using Zt (fun u hu=>(hcn u hu).1) hkc hc
theorem SY.build1 {t e:TypeId} {bytes:Nat} {z:Value} {ag:Bool} (E:ElT P t e 1 z bytes ag) {α:Type} {R:Rel α} [Good R] {len:Nat} {parts:Array (Nat × Operand)} {xs:List Operand} {as1:List α} (hx:ElsD fr R xs as1) (hparts:parts.toList=(xs.zipIdx).map (fun p=>(p.2,p.1))) (hl:len=as1.length) (hs:∀a,(dS R a).Shape 1 false) (hsm:as1.length*1≤16777216) :
  SY P ops hp ⟨dst,.buildSlice t len parts,ty,ps,af,g⟩ fr (dS (Arr R) as1):=ZAG fun {P0 B w0 w a} hh ho=>by
 obtain⟨css,hr,hcl,hcn,hel⟩:=ZBS E hx hl hparts hs hsm hh ho;refine⟨_,_,hr,ZWU _ _,some ⟨w.heap.size,0,none⟩,as1.length,rfl,Nat.le_refl _,by simp only[maxLen];omega,fun k hk=>?_⟩;have hkc:k<css.length:=by omega
 obtain⟨u,hu,hR⟩:=hel k css[k] as1[k] (List.getElem?_eq_getElem hkc) (List.getElem?_eq_getElem hk);simp only[Bool.false_eq_true,if_false] at hu;have hm:=hcn css[k] (List.getElem_mem hkc);have h1:u.oneCell'=true:=hm.2 u (by rw[hu];simp);refine⟨u,w.heap.size,0,Good.ext (R:=R) hR (ZWU _ _),h1,rfl,hh.fresh (Nat.le_refl _),?_⟩;rw[cell_of_row _ _ _ _ _ _ (Zw w _),Nat.zero_add];have:=Zt (k:=k) (j:=0) (c:=u) (fun u hu=>(hcn u hu).1) hkc (by rw[hu];rfl);simpa using this

def dFn (P:Program) {α:Type} (A:α->List Dat) (r:α->Dat):Dat where
 rd:=fun I w v=>∃f cap,v = .func (.func f) #[] cap/\∀w',(∀k,I k->k<w.heap.size->w'.heap[k]?=w.heap[k]?)->∀(x:α) (I':Nat->Prop) (vs:List Value),vs.length=(A x).length->(∀(i:Nat) (d:Dat),(A x)[i]?=some d->d.rd I' w' (vs.getD i undef)) ->
  Calls P f (vs.toArray++cap) w' fun e w''=>∃u,e = .returned u/\Ext w' w''/\(r x).rd (fun b=>I' b\/w'.heap.size≤b) w'' u
 weak:=fun⟨f,cap,h1,h2⟩ q=>⟨f,cap,h1,fun w' hw'=>h2 w' fun k hk=>hw' k (q k hk)⟩
 move:=fun {P w w2 v} ⟨f,cap,h1,h2⟩ q=>⟨f,cap,h1,fun w' hw'=>h2 w' fun k hk hlt=>by
  have h3:=q k hk hlt;have hlt2:k<w2.heap.size:=by
   have:(w2.heap[k]?).isSome=true:=by rw[h3];simp[hlt]
   exact(Array.getElem?_eq_some_iff.1 (Option.isSome_iff_exists.1 this).choose_spec).1
  exact(hw' k hk hlt2).trans h3⟩
 bound:=fun⟨f,cap,h1,h2⟩=>⟨f,cap,h1,fun w' hw'=>h2 w' fun k hk hlt=>hw' k ⟨hk,hlt⟩ hlt⟩
theorem SY.makeFunc {f:FuncId} {caps:Array Operand} {cs:List Dat} {α:Type} {A:α->List Dat} {r:α->Dat} (h:∀x,Fn P f (A x++cs) (r x)) (hr:∀x,(r x).Bare) (ha:ArgsD fr caps.toList cs) :
  SY P ops hp ⟨dst,.makeFunc (.func f) #[] caps,ty,ps,af,g⟩ fr (dFn P A r):=ZWK fun {I w a} ho=>by
 refine⟨.func (.func f) #[] (caps.map a.eval),by unfold execOp;simp[Instr.makeFunc],f,_,rfl,fun w' hw' x I' vs hl hv=>?_⟩;have hcap:∀(i:Nat) (d:Dat),cs[i]?=some d->d.rd I w' ((caps.toList.map a.eval).getD i undef):=fun i d hd=>by
  have hi:i<caps.toList.length:=by rw[ha.1];exact(List.getElem?_eq_some_iff.1 hd).1
  have h2:=ha.2 i _ d (List.getElem?_eq_getElem hi) hd;have:=h2.get (by simp only[Op.operands];simp) ho;have hi':i<caps.size:=by simpa using hi
  have:=d.move this hw';simpa[List.getD,hi'] using this
 have:=(h x).out (fun b=>I' b\/I b) w' (vs++caps.toList.map a.eval) (by have:=ha.1;simp at this;simp[hl,this]) fun i d hd=>by
  by_cases hi:i<(A x).length
  ·rw[List.getElem?_append_left hi] at hd;have:=hv i d hd;have hi2:i<vs.length:=by omega
   rw[List.getD_eq_getElem?_getD,List.getElem?_append_left hi2,<- List.getD_eq_getElem?_getD];exact d.weak this fun _=>.inl
  ·rw[List.getElem?_append_right (by omega)] at hd;have:=hcap _ d hd;rw[List.getD_eq_getElem?_getD,List.getElem?_append_right (by omega),<- List.getD_eq_getElem?_getD,hl];exact d.weak this fun _=>.inr
 have he:(vs++caps.toList.map a.eval).toArray=vs.toArray++caps.map a.eval:=by apply Array.ext';simp
 rw[he] at this;exact this.mono fun e w'' ⟨u,h1,h2,h3⟩=>⟨u,h1,h2,hr x _ _ _ _ _ h3⟩
end

end
section
open Go.RowKit

section
variable {P:Program} {ops:Array Oper} {hp:List HObj} {o:Oper} {fr:List Dat} {d:Dat} {Q:Z4} {rest:List Oper}
variable {dst:Option Tmp} {ty:TypeId} {ps:String} {af:Array Edge} {g:Option (Nat × Bool)}
variable {t e:TypeId} {n bytes:Nat} {z:Value} {ag:Bool}

theorem ZS4 {w:World} {base:Nat} {v:Value} {m size:Nat} {cs:List Value} (h:w.ownsRow base e size v m cs) {k:Nat} (hk:v.ownBlock=some k):k<w.heap.size:=(h.lt k hk).2

theorem ZEy {α:Type} {R:Rel α} [Good R] {P0:Nat->Prop} {B:Nat} {w w':World} {ob:HObj} {v':Value} (hg:w.grownBy w' ob.blk) (hat:v'.ownBlock=ob.blk\/v'.ownBlock=some w.heap.size) {u:Value} {x:α} (h:R (Imm P0 B (ob::hp)) w u x) :
  R (fun b=>(Imm P0 B (ob::hp) b/\b<w.heap.size)/\v'.ownBlock≠some b) w' u x:=by
 have h1:=Good.grown (Good.bound h) hg (fun k hk hc=>hc.1.2 ob (by simp) hk);refine Good.weak h1 fun b hb=>⟨hb,fun hc=>?_⟩;rcases hat with h'|h'
 ·rw[h'] at hc;exact hb.1.2 ob (by simp) hc
 ·rw[h'] at hc;cases hc;exact absurd hb.2 (Nat.lt_irrefl _)

theorem ZGk (E:ElT P t e n z bytes ag) {α:Type} {R:Rel α} [Good R] {P0:Nat->Prop} {B:Nat} {w0 w:World} {v:Value} {xs ys:List α} (hh:Hp P0 B w0 (Zx v e n R xs::hp) w) {ad:Addr} {c:Nat} {news:List (List Value)} (hl:news.length=ys.length)
  (hc:∀j u,news.flatten[j]?=some u->w.cell? (ad.add j)=some u) (hu:∀u∈news,u.length=n/\∀c∈u,c.oneCell'=true) (hy:∀(k:Nat) (h:k<news.length) (h':k<ys.length),R (Imm P0 B (Zx v e n R xs::hp)) w (.agg news[k].toArray) ys[k])
  (hlen:(xs.length+ys.length)*bytes≤140737488355328) (hm:xs.length+ys.length≤maxLen) :
  ∃v' w',(Builtin.append_ #[t,t] ty #[v,.slice (some ad) ys.length c]).run P w = .ok v' w'/\Hp P0 B w0 (Zx v' e n R (xs++ys)::hp) w'/\w.grownBy w' v.ownBlock/\(v'.ownBlock=v.ownBlock\/∀k,v'.ownBlock=some k->w.heap.size≤k):=by
 obtain⟨us,hul,hus,hn,ho,he⟩:=hh.ok (Zx v e n R xs) (by simp);obtain⟨i,hi,hz,hsz,hb⟩:=info_parts E.info;have hnl:news.flatten.length=ys.length*n:=by rw[ZAv fun u h=>(hu u h).1,hl]
 obtain⟨v',w',hr,r1,r2,r3,r4⟩:=run_append_own_at (P:=P) w 0 t ty e i z n bytes E.und hi hz hsz hb E.zs hn v xs.length us.flatten ho ad ys.length c news.flatten hnl hc
  (fun u hu'=>by obtain⟨l,hl',hul'⟩:=List.mem_flatten.1 hu';exact(hu l hl').2 u hul') hm hlen (Nat.zero_le _)
 have hat':v'.ownBlock=(Zx v e n R xs).blk\/v'.ownBlock=some w.heap.size:=r4;refine⟨v',w',hr,hh.write (o':=Zx v' e n R (xs++ys)) r2 ?_ ?_,r2,r4.imp id fun h k hk=>by rw[h] at hk;cases hk;exact Nat.le_refl _⟩
 ·rcases r4 with h|h
  ·exact .inl h
  ·refine .inr fun k hk=>?_;have hk':v'.ownBlock=some k:=hk;rw[h] at hk';cases hk';exact⟨Nat.le_refl _,ZS4 r1 h⟩
 ·refine⟨us++news,by simp[hul,hl],fun u hu'=>?_,hn,by rw[List.length_append,List.flatten_append];exact r1,fun k h h'=>?_⟩
  ·rcases List.mem_append.1 hu' with h|h
   ·exact hus u h
   ·exact hu u h
  ·by_cases hk:k<us.length
   ·have hk':k<xs.length:=by omega
    rw[List.getElem_append_left hk,List.getElem_append_left hk'];exact ZEy r2 hat' (Good.weak (he k hk hk') fun b hb=>hb.1)
   ·have e1:k-us.length<news.length:=by rw[List.length_append] at h;omega
    have e2:k-xs.length<ys.length:=by rw[List.length_append] at h';omega
    rw[List.getElem_append_right (by omega),List.getElem_append_right (by omega)];have:=hy (k-us.length) e1 (by omega);have e3:k-us.length=k-xs.length:=by rw[hul]
    simp only[e3] at this ⊢;exact ZEy r2 hat' this
theorem ZC4 (E:ElT P t e 1 z bytes ag) {α:Type} {R:Rel α} [Good R] {P0:Nat->Prop} {B:Nat} {w0 w:World} {v:Value} {xs ys:List α} (hh:Hp P0 B w0 (Zk v e R xs::hp) w) {ad:Addr} {c:Nat} {news:List Value} (hl:news.length=ys.length)
  (hc:∀j u,news[j]?=some u->w.cell? (ad.add j)=some u) (hu:∀u∈news,u.oneCell'=true) (hy:∀(k:Nat) (h:k<news.length) (h':k<ys.length),R (Imm P0 B (Zk v e R xs::hp)) w news[k] ys[k])
  (hlen:(xs.length+ys.length)*bytes≤140737488355328) (hm:xs.length+ys.length≤maxLen) :
  ∃v' w',(Builtin.append_ #[t,t] ty #[v,.slice (some ad) ys.length c]).run P w = .ok v' w'/\Hp P0 B w0 (Zk v' e R (xs++ys)::hp) w'/\w.grownBy w' v.ownBlock/\(v'.ownBlock=v.ownBlock\/∀k,v'.ownBlock=some k->w.heap.size≤k):=by
 obtain⟨us,hul,ho,he⟩:=hh.ok (Zk v e R xs) (by simp);obtain⟨i,hi,hz,hsz,hb⟩:=info_parts E.info;obtain⟨v',w',hr,r1,r2,r3,r4⟩:=run_append_own_at (P:=P) w 0 t ty e i z 1 bytes E.und hi hz hsz hb E.zs Nat.one_pos v xs.length us ho ad ys.length c news (by omega) hc hu hm hlen (Nat.zero_le _);have hat':v'.ownBlock=(Zk v e R xs).blk\/v'.ownBlock=some w.heap.size:=r4;refine⟨v',w',hr,hh.write (o':=Zk v' e R (xs++ys)) r2 ?_ ?_,r2,r4.imp id fun h k hk=>by rw[h] at hk;cases hk;exact Nat.le_refl _⟩
 ·rcases r4 with h|h
  ·exact .inl h
  ·refine .inr fun k hk=>?_;have hk':v'.ownBlock=some k:=hk;rw[h] at hk';cases hk';exact⟨Nat.le_refl _,ZS4 r1 h⟩
 ·refine⟨us++news,by simp[hul,hl],by rw[List.length_append];exact r1,fun k h h'=>?_⟩;by_cases hk:k<us.length
  ·have hk':k<xs.length:=by omega
   rw[List.getElem_append_left hk,List.getElem_append_left hk'];exact⟨(he k hk hk').1,ZEy r2 hat' (Good.weak (he k hk hk').2 fun b hb=>hb.1)⟩
  ·have e1:k-us.length<news.length:=by rw[List.length_append] at h;omega
   have e2:k-xs.length<ys.length:=by rw[List.length_append] at h';omega
   rw[List.getElem_append_right (by omega),List.getElem_append_right (by omega)];have:=hy (k-us.length) e1 (by omega);have e3:k-us.length=k-xs.length:=by rw[hul]
   simp only[e3] at this ⊢;exact⟨hu _ (List.getElem_mem (by omega)),ZEy r2 hat' this⟩

theorem ZDV {a:Act} {k:Tmp} {u:Value} {x:Operand} (h:x ≠ .tmp k):(a.put (some k) u).eval x=a.eval x:=by
 cases x with
 | tmp t =>
  have:k≠t:=fun e=>h (by rw[e]);simp[Act.eval,Act.put,Array.getD_eq_getD_getElem?,this]
 | _=>rfl
theorem ZB9 {a:Act} {k:Tmp} {u:Value} (h:k<a.tmps.size):(a.put (some k) u).eval (.tmp k)=u:=by
 simp[Act.eval,Act.put,Array.getD_eq_getD_getElem?,h]
theorem ZA0 {a:Act} {w w':World} {s y:Operand} {v yv v':Value} {dst2:Option Tmp} {ty2:TypeId} {Qa:Exit->Act->World->Prop} (hs:a.eval s=v) (hy:a.eval y=yv) (hr:(Builtin.append_ #[t,t] ty2 #[v,yv]).run P w = .ok v' w') (hk:wpList P ops Qa rest (a.put dst2 v') w') :
  wpList P ops Qa (⟨dst2,.call { callee:=.builtin .append,args:=#[s,y],argTypes:=#[t,t] },ty2,ps,af,none⟩::rest) a w:=by
 refine Zo rfl (v:=v') (w':=w') ?_ hk;unfold execOp;simp only[resolve,invoke,builtin,List.map_toArray,List.map_cons,List.map_nil,hs,hy,Sem.run_bind,Sem.run_pure,Result.andThen_ok,hr]

theorem Zq {s x:Operand} {k:Tmp} {dst2:Option Tmp} {ty2:TypeId} {ps2:String} {af2:Array Edge} (E:ElT P t e n z bytes ag) {α:Type} {R:Rel α} {_gR:Good R} {v:Value} {xs:List α} {y:α} (hs:OpD fr s (dX v)) (hx:OpD fr x (dS R y)) (hsh:∀a,(dS R a).Shape n true) (hne:s ≠ .tmp k) (hkl:k<fr.length) (hn:0<n/\n≤16777216) (hby:0<bytes)
  (hlen:(xs.length+1)*bytes≤140737488355328) (h:∀v',WL P ops Q rest (ZC (fr.set k dA) dst2 (dX v')) (Zx v' e n R (xs++[y])::hp)) :
  WL P ops Q (⟨some k,.buildSlice t 1 #[(0,x)],ty,ps,af,none⟩::⟨dst2,.call { callee:=.builtin .append,args:=#[s,.tmp k],argTypes:=#[t,t] },ty2,ps2,af2,none⟩::rest) fr (Zx v e n R xs::hp):=by
 refine WL.of fun P0 B w0 w a hh hf=>?_;have hxr:=hx.ev hf;obtain⟨cs,k1,k0,k2,k3,k4⟩:=hsh y _ _ _ hxr;simp only[if_true] at k4;have hb:=ZBT (w:=w) E (us:=[a.eval x]) (css:=[cs]) rfl (fun i u cs' hu hcs=>by
  cases i with
  | zero=>cases hu;cases hcs;exact⟨k3,k1⟩
  | succ i=>simp at hu) (by simp;omega)
 refine Zo rfl (v:=.slice (some ⟨w.heap.size,0,none⟩) 1 1) (w':=w.alloc (.cells [cs].flatten.toArray e)) ?_ ?_
 ·unfold execOp;simp only[List.map_toArray,List.map_cons,List.map_nil,Sem.run_bind];have:(Instr.buildSlice t 1 #[(0,a.eval x)]).run P w = .ok (.slice (some ⟨w.heap.size,0,none⟩) 1 1) (w.alloc (.cells [cs].flatten.toArray e)):=hb;simp only[this,Result.andThen_ok,Sem.run_pure]
 have hxe:=ZWU w (.cells [cs].flatten.toArray e);have hh1:=hh.ext hxe;have hf1:Fr (Imm P0 B (Zx v e n R xs::hp)) (w.alloc (.cells [cs].flatten.toArray e)) (a.put (some k) (.slice (some ⟨w.heap.size,0,none⟩) 1 1)) (fr.set k dA):=ZWN (x:=some k) (hf.ext hxe) (d:=dA) trivial;have hm:xs.length+[y].length≤maxLen:=by
  have:(xs.length+1)*1≤(xs.length+1)*bytes:=Nat.mul_le_mul_left _ hby;simp only[maxLen,List.length_cons,List.length_nil];omega
 obtain⟨v',w',hr,r1,r2,r3⟩:=ZGk (ty:=ty2) E hh1 (ad:=⟨w.heap.size,0,none⟩) (c:=1) (ys:=[y]) (news:=[cs]) rfl (fun j u hu=>by
   rw[Addr.add_lit,cell_of_row _ _ _ _ _ _ (Zw w _),Nat.zero_add];simpa using hu) (fun u hu=>by rw[List.mem_singleton.1 hu];exact⟨k1,k2⟩) (fun j h1 h2=>by
   have hj:j=0:=by simp at h1;omega
   subst hj;have:=Good.ext (R:=R) hxr hxe;rw[k4] at this;exact this) (by simpa using hlen) hm
 refine ZA0 (v:=v) (yv:=.slice (some ⟨w.heap.size,0,none⟩) 1 1) ?_ (ZB9 (by rw[hf.size];exact hkl)) hr ?_
 ·rw[ZDV hne];exact hs.ev hf
 ·exact(h v').on r1 (ZWN (x:=dst2) (hf1.mono fun d _ hd=>Zd (o:=Zx v e n R xs) (o':=Zx v' e n R (xs++[y])) r2 r3 hd) (d:=dX v') rfl)
theorem Zl {s x:Operand} {k:Tmp} {dst2:Option Tmp} {ty2:TypeId} {ps2:String} {af2:Array Edge} (E:ElT P t e 1 z bytes ag) {α:Type} {R:Rel α} {_gR:Good R} {v:Value} {xs:List α} {y:α} (hs:OpD fr s (dX v)) (hx:OpD fr x (dS R y)) (hsh:∀a,(dS R a).Shape 1 false) (hne:s ≠ .tmp k) (hkl:k<fr.length) (hby:0<bytes)
  (hlen:(xs.length+1)*bytes≤140737488355328) (h:∀v',WL P ops Q rest (ZC (fr.set k dA) dst2 (dX v')) (Zk v' e R (xs++[y])::hp)) :
  WL P ops Q (⟨some k,.buildSlice t 1 #[(0,x)],ty,ps,af,none⟩::⟨dst2,.call { callee:=.builtin .append,args:=#[s,.tmp k],argTypes:=#[t,t] },ty2,ps2,af2,none⟩::rest) fr (Zk v e R xs::hp):=by
 refine WL.of fun P0 B w0 w a hh hf=>?_;have hxr:=hx.ev hf;obtain⟨cs,k1,k0,k2,k3,k4⟩:=hsh y _ _ _ hxr;simp only[Bool.false_eq_true,if_false] at k4;subst k4;have hb:=ZBT (w:=w) E (us:=[a.eval x]) (css:=[[a.eval x]]) rfl (fun i u cs' hu hcs=>by
  cases i with
  | zero=>cases hu;cases hcs;exact⟨k3,k1⟩
  | succ i=>simp at hu) (by simp)
 refine Zo rfl (v:=.slice (some ⟨w.heap.size,0,none⟩) 1 1) (w':=w.alloc (.cells [[a.eval x]].flatten.toArray e)) ?_ ?_
 ·unfold execOp;simp only[List.map_toArray,List.map_cons,List.map_nil,Sem.run_bind];have:(Instr.buildSlice t 1 #[(0,a.eval x)]).run P w = .ok (.slice (some ⟨w.heap.size,0,none⟩) 1 1) (w.alloc (.cells [[a.eval x]].flatten.toArray e)):=hb;simp only[this,Result.andThen_ok,Sem.run_pure]
 have hxe:=ZWU w (.cells [[a.eval x]].flatten.toArray e);have hh1:=hh.ext hxe;have hf1:Fr (Imm P0 B (Zk v e R xs::hp)) (w.alloc (.cells [[a.eval x]].flatten.toArray e)) (a.put (some k) (.slice (some ⟨w.heap.size,0,none⟩) 1 1)) (fr.set k dA):=ZWN (x:=some k) (hf.ext hxe) (d:=dA) trivial;have hm:xs.length+[y].length≤maxLen:=by
  have:(xs.length+1)*1≤(xs.length+1)*bytes:=Nat.mul_le_mul_left _ hby;simp only[maxLen,List.length_cons,List.length_nil];omega
 obtain⟨v',w',hr,r1,r2,r3⟩:=ZC4 (ty:=ty2) E hh1 (ad:=⟨w.heap.size,0,none⟩) (c:=1) (ys:=[y]) (news:=[a.eval x]) rfl (fun j u hu=>by
   rw[Addr.add_lit,cell_of_row _ _ _ _ _ _ (Zw w _),Nat.zero_add];simpa using hu) k2 (fun j h1 h2=>by
   have hj:j=0:=by simp at h1;omega
   subst hj;exact Good.ext (R:=R) hxr hxe) (by simpa using hlen) hm
 refine ZA0 (v:=v) (yv:=.slice (some ⟨w.heap.size,0,none⟩) 1 1) ?_ (ZB9 (by rw[hf.size];exact hkl)) hr ?_
 ·rw[ZDV hne];exact hs.ev hf
 ·exact(h v').on r1 (ZWN (x:=dst2) (hf1.mono fun d _ hd=>Zd (o:=Zk v e R xs) (o':=Zk v' e R (xs++[y])) r2 r3 hd) (d:=dX v') rfl)

theorem WL.appK {s y:Operand} {dst2:Option Tmp} {ty2:TypeId} {ps2:String} {af2:Array Edge} (E:ElT P t e n z bytes ag) {α:Type} {R:Rel α} {_gR:Good R} {v:Value} {xs ys:List α} (hs:OpD fr s (dX v)) (hy:OpD fr y (dS (ArrK n R) ys)) (hby:0<bytes)
  (hlen:(xs.length+ys.length)*bytes≤140737488355328) (h:∀v',WL P ops Q rest (ZC fr dst2 (dX v')) (Zx v' e n R (xs++ys)::hp)) :
  WL P ops Q (⟨dst2,.call { callee:=.builtin .append,args:=#[s,y],argTypes:=#[t,t] },ty2,ps2,af2,none⟩::rest) fr (Zx v e n R xs::hp):=by
 refine WL.of fun P0 B w0 w a hh hf=>?_;obtain⟨ad,cap,hv,c1,c2,c0,c3⟩:=(hy.ev hf:ArrK n R _ _ _ _);have hm:xs.length+ys.length≤maxLen:=by
  have:(xs.length+ys.length)*1≤(xs.length+ys.length)*bytes:=Nat.mul_le_mul_left _ hby;simp only[maxLen];omega
 cases ad with
 | none =>
  have hy0:ys=[]:=by
   cases ys with
   | nil=>rfl
   | cons y ys=>obtain⟨_,_,_,_,_,_,hc,_⟩:=c3 0 (by simp);cases hc
  subst hy0;obtain⟨us,_,_,_,ho,_⟩:=hh.ok (Zx v e n R xs) (by simp);refine ZA0 (v:=v) (yv:=_) (hs.ev hf) hv (ZBc E ho cap) ?_;have:=h v;rw[List.append_nil] at this;exact this.on hh (ZWN hf rfl)
 | some ad =>
  have hch:∀k:Nat,∃cs:List Value,∀h:k<ys.length,cs.length=n/\(∀c∈cs,c.oneCell'=true)/\(∀j c,cs[j]?=some c->w.cell? (ad.add (k*n+j))=some c)/\R (Imm P0 B (Zx v e n R xs::hp)) w (.agg cs.toArray) ys[k]:=fun k=>by
   by_cases hk:k<ys.length
   ·obtain⟨cs,b,off,r1,r2,r3,r4,r5,r6⟩:=c3 k hk;cases r4;exact⟨cs,fun _=>⟨r2,r3,fun j c hc=>by rw[Addr.add_lit,<- Nat.add_assoc];exact r6 j c hc,r1⟩⟩
   ·exact⟨[],fun h=>absurd h hk⟩
  obtain⟨f,hfch⟩:=Classical.axiomOfChoice hch;have hmem:∀u∈(List.range ys.length).map f,∃j,j<ys.length/\u=f j:=fun u hu=>by
   simp only[List.mem_map,List.mem_range] at hu;obtain⟨j,hj,rfl⟩:=hu;exact⟨j,hj,rfl⟩
  obtain⟨v',w',hr,r1,r2,r3⟩:=ZGk (ty:=ty2) E hh (ad:=ad) (c:=cap) (ys:=ys) (news:=(List.range ys.length).map f) (by simp) (fun j u hu=>by
    have hlt:=(List.getElem?_eq_some_iff.1 hu).1;have hfl:((List.range ys.length).map f).flatten.length=ys.length*n:=by
     rw[ZAv (n:=n) fun u hu=>by obtain⟨j,hj,rfl⟩:=hmem u hu;exact(hfch j hj).1];simp
    rw[hfl] at hlt;have hq:j / n<ys.length:=(Nat.div_lt_iff_lt_mul c0).2 hlt;have hr:j % n<n:=Nat.mod_lt _ c0;have hj:j=(j / n)*n+j % n:=by rw[Nat.mul_comm];exact(Nat.div_add_mod j n).symm
    have hlen':=(hfch (j / n) hq).1;have hg:=Zt (us:=(List.range ys.length).map f) (n:=n) (k:=j / n) (j:=j % n) (fun u hu=>by obtain⟨j,hj,rfl⟩:=hmem u hu;exact(hfch j hj).1) (by simpa using hq) (c:=(f (j / n))[j % n]'(by omega)) (by simp);rw[<- hj,hu] at hg;cases hg;have:=(hfch (j / n) hq).2.2.1 (j % n) _ (List.getElem?_eq_getElem (by omega));rw[<- hj] at this;exact this)
   (fun u hu=>by obtain⟨j,hj,rfl⟩:=hmem u hu;exact⟨(hfch j hj).1,(hfch j hj).2.1⟩) (fun k h1 h2=>by
    simp only[List.getElem_map,List.getElem_range];exact(hfch k h2).2.2.2) hlen hm
  refine ZA0 (v:=v) (yv:=_) (hs.ev hf) hv hr ?_;exact(h v').on r1 (ZWN (x:=dst2) (hf.mono fun d _ hd=>Zd (o:=Zx v e n R xs) (o':=Zx v' e n R (xs++ys)) r2 r3 hd) (d:=dX v') rfl)
theorem WL.app1 {s y:Operand} {dst2:Option Tmp} {ty2:TypeId} {ps2:String} {af2:Array Edge} (E:ElT P t e 1 z bytes ag) {α:Type} {R:Rel α} {_gR:Good R} {v:Value} {xs ys:List α} (hs:OpD fr s (dX v)) (hy:OpD fr y (dS (Arr R) ys)) (hby:0<bytes)
  (hlen:(xs.length+ys.length)*bytes≤140737488355328) (h:∀v',WL P ops Q rest (ZC fr dst2 (dX v')) (Zk v' e R (xs++ys)::hp)) :
  WL P ops Q (⟨dst2,.call { callee:=.builtin .append,args:=#[s,y],argTypes:=#[t,t] },ty2,ps2,af2,none⟩::rest) fr (Zk v e R xs::hp):=by
 refine WL.of fun P0 B w0 w a hh hf=>?_;obtain⟨ad,cap,hv,c1,c2,c3⟩:=(hy.ev hf:Arr R _ _ _ _);have hm:xs.length+ys.length≤maxLen:=by
  have:(xs.length+ys.length)*1≤(xs.length+ys.length)*bytes:=Nat.mul_le_mul_left _ hby;simp only[maxLen];omega
 cases ad with
 | none =>
  have hy0:ys=[]:=by
   cases ys with
   | nil=>rfl
   | cons y ys=>obtain⟨_,_,_,_,_,hc,_⟩:=c3 0 (by simp);cases hc
  subst hy0;obtain⟨us,_,ho,_⟩:=hh.ok (Zk v e R xs) (by simp);refine ZA0 (v:=v) (yv:=_) (hs.ev hf) hv (ZBc E ho cap) ?_;have:=h v;rw[List.append_nil] at this;exact this.on hh (ZWN hf rfl)
 | some ad =>
  have hch:∀k:Nat,∃u:Value,∀h:k<ys.length,w.cell? (ad.add k)=some u/\u.oneCell'=true/\R (Imm P0 B (Zk v e R xs::hp)) w u ys[k]:=fun k=>by
   by_cases hk:k<ys.length
   ·obtain⟨u,b,off,r1,r2,r3,r4,r5⟩:=c3 k hk;cases r3;exact⟨u,fun _=>⟨by rw[Addr.add_lit];exact r5,r2,r1⟩⟩
   ·exact⟨undef,fun h=>absurd h hk⟩
  obtain⟨f,hfch⟩:=Classical.axiomOfChoice hch;obtain⟨v',w',hr,r1,r2,r3⟩:=ZC4 (ty:=ty2) E hh (ad:=ad) (c:=cap) (ys:=ys) (news:=(List.range ys.length).map f) (by simp) (fun j u hu=>by
    obtain⟨hjl,hju⟩:=List.getElem?_eq_some_iff.1 hu;simp at hjl hju;subst hju;exact(hfch j hjl).1) (fun u hu=>by
    simp only[List.mem_map,List.mem_range] at hu;obtain⟨j,hj,rfl⟩:=hu;exact(hfch j hj).2.1) (fun k h1 h2=>by
    simp only[List.getElem_map,List.getElem_range];exact(hfch k h2).2.2) hlen hm
  refine ZA0 (v:=v) (yv:=_) (hs.ev hf) hv hr ?_;exact(h v').on r1 (ZWN (x:=dst2) (hf.mono fun d _ hd=>Zd (o:=Zk v e R xs) (o':=Zk v' e R (xs++ys)) r2 r3 hd) (d:=dX v') rfl)
theorem ZC1 (E:ElT P t e n z bytes ag) {α:Type} (R:Rel α) [Good R] (hn:0<n) (h:∀v,WL P ops Q rest (ZC fr dst (dX v)) (Zx v e n R ([]:List α)::hp)):WL P ops Q (⟨dst,.buildSlice t 0 #[],ty,ps,af,none⟩::rest) fr hp:=by
 refine WL.of fun P0 B w0 w a hh hf=>?_;have hb:=ZBT (w:=w) E (us:=[]) (css:=[]) rfl (fun i u cs' hu hcs=>by simp at hu) (by simp);refine Zo rfl (v:=.slice (some ⟨w.heap.size,0,none⟩) 0 0) (w':=w.alloc (.cells #[] e)) ?_ ?_
 ·unfold execOp;simp only[List.map_toArray,List.map_nil,Sem.run_bind];have:(Instr.buildSlice t 0 #[]).run P w = .ok (.slice (some ⟨w.heap.size,0,none⟩) 0 0) (w.alloc (.cells #[] e)):=hb;simp only[this,Result.andThen_ok,Sem.run_pure]
 have hx:=ZWU w (.cells #[] e);have hob:∀k,(Zx (.slice (some ⟨w.heap.size,0,none⟩) 0 0) e n R ([]:List α)).blk=some k->w.heap.size≤k/\k<(w.alloc (.cells #[] e)).heap.size:=fun k hk=>by
  cases hk;exact⟨Nat.le_refl _,by simp⟩
 refine(h _).on (hh.push (o:=Zx (.slice (some ⟨w.heap.size,0,none⟩) 0 0) e n R ([]:List α)) hx hob ⟨[],rfl,fun u hu=>by simp at hu,hn,?_,fun k h=>absurd h (Nat.not_lt_zero k)⟩) (ZWN (hf.mono fun d _ hd=>ZAJ hx (fun k hk=>(hob k hk).1) hd) rfl);refine⟨by simp,.inr ⟨w.heap.size,0,#[],rfl,Nat.zero_le _,Zw w _,by simp,by simp[maxLen],by simp,by simp⟩⟩
theorem ZM4 (E:ElT P t e 1 z bytes ag) {α:Type} (R:Rel α) [Good R] (h:∀v,WL P ops Q rest (ZC fr dst (dX v)) (Zk v e R ([]:List α)::hp)):WL P ops Q (⟨dst,.buildSlice t 0 #[],ty,ps,af,none⟩::rest) fr hp:=by
 refine WL.of fun P0 B w0 w a hh hf=>?_;have hb:=ZBT (w:=w) E (us:=[]) (css:=[]) rfl (fun i u cs' hu hcs=>by simp at hu) (by simp);refine Zo rfl (v:=.slice (some ⟨w.heap.size,0,none⟩) 0 0) (w':=w.alloc (.cells #[] e)) ?_ ?_
 ·unfold execOp;simp only[List.map_toArray,List.map_nil,Sem.run_bind];have:(Instr.buildSlice t 0 #[]).run P w = .ok (.slice (some ⟨w.heap.size,0,none⟩) 0 0) (w.alloc (.cells #[] e)):=hb;simp only[this,Result.andThen_ok,Sem.run_pure]
 have hx:=ZWU w (.cells #[] e);have hob:∀k,(Zk (.slice (some ⟨w.heap.size,0,none⟩) 0 0) e R ([]:List α)).blk=some k->w.heap.size≤k/\k<(w.alloc (.cells #[] e)).heap.size:=fun k hk=>by
  cases hk;exact⟨Nat.le_refl _,by simp⟩
 refine(h _).on (hh.push (o:=Zk (.slice (some ⟨w.heap.size,0,none⟩) 0 0) e R ([]:List α)) hx hob ⟨[],rfl,?_,fun k h=>absurd h (Nat.not_lt_zero k)⟩) (ZWN (hf.mono fun d _ hd=>ZAJ hx (fun k hk=>(hob k hk).1) hd) rfl);refine⟨by simp,.inr ⟨w.heap.size,0,#[],rfl,Nat.zero_le _,Zw w _,by simp,by simp[maxLen],by simp,by simp⟩⟩
theorem ZD5 {α:Type} {R:Rel α} [Good R] {P0:Nat->Prop} {B:Nat} {w0 w:World} {v:Value} {xs:List α} (hh:Hp P0 B w0 (Zk v e R xs::hp) w):Arr R (Imm P0 B hp) w v xs:=by
 obtain⟨us,hl,ho,he⟩:=hh.ok (Zk v e R xs) (by simp);obtain⟨a,cap,hv,h1,h2,h3⟩:=Z7 ho;refine⟨a,cap,hv,h1,h2,fun k hk=>?_⟩;have hk':k<us.length:=by omega
 obtain⟨gb,ha,hob,_,hc⟩:=h3 k us[k] (List.getElem?_eq_getElem hk');obtain⟨r1,r2⟩:=he k hk' hk;exact⟨us[k],gb,0,Good.weak r2 (fun b hb=>ZWZ b hb.1),r1,ha,⟨.inr (hh.own (Zk v e R xs) (by simp) gb hob).1,fun o' ho' hk=>(List.pairwise_cons.1 hh.apart).1 o' ho' gb hob hk⟩,by rw[Nat.zero_add];exact hc⟩
theorem ZEo {α:Type} {R:Rel α} [Good R] {P0:Nat->Prop} {B:Nat} {w0 w:World} {v:Value} {xs:List α} (hh:Hp P0 B w0 (Zx v e n R xs::hp) w):ArrK n R (Imm P0 B hp) w v xs:=by
 obtain⟨us,hl,hu,hn,ho,he⟩:=hh.ok (Zx v e n R xs) (by simp);obtain⟨a,cap,hv,h1,h2,h3⟩:=Z7 ho;refine⟨a,cap,hv,h1,h2,hn,fun k hk=>?_⟩;have hk':k<us.length:=by omega
 have hmem:=hu us[k] (List.getElem_mem hk');have hlen:∀u∈us,u.length=n:=fun u h=>(hu u h).1;have hc0:0<us[k].length:=by rw[hmem.1];exact hn
 obtain⟨gb,ha,hob,hB,_⟩:=h3 (k*n+0) us[k][0] (Zt hlen hk' (List.getElem?_eq_getElem hc0));refine⟨us[k],gb,0,Good.weak (he k hk' hk) (fun b hb=>ZWZ b hb.1),hmem.1,hmem.2,ha,⟨.inr (hh.own (Zx v e n R xs) (by simp) gb hob).1,fun o' ho' hk=>(List.pairwise_cons.1 hh.apart).1 o' ho' gb hob hk⟩,fun j c hc=>?_⟩;obtain⟨g',ha',_,_,hc'⟩:=h3 (k*n+j) c (Zt hlen hk' hc);rw[ha] at ha';cases ha';rw[Nat.zero_add];exact hc'
theorem ZCM {P0:Nat->Prop} {B:Nat} {w:World} {a:Act} {ob:HObj} {v:Value} (hf:Fr (Imm P0 B (ob::hp)) w a fr) {s:Tmp} (hs:fr[s]?=some (dX v)) (hd:d.rd (Imm P0 B hp) w v):Fr (Imm P0 B hp) w a (fr.set s d):=by
 refine⟨hf.defers,by rw[hf.size,List.length_set],fun t' d' hd'=>?_⟩;by_cases htt:s=t'
 ·subst htt;rw[List.getElem?_set] at hd';simp only[if_true] at hd';split at hd'
  ·cases hd';have hv:a.tmps.getD s undef=v:=hf.rd s _ hs;rw[hv];exact hd
  ·cases hd'
 ·rw[List.getElem?_set_ne htt] at hd';exact d'.weak (hf.rd t' d' hd') ZWZ
theorem ZDR {α:Type} {R:Rel α} {_gR:Good R} {v:Value} {xs:List α} {s:Tmp} (hs:fr[s]?=some (dX v)) (h:WL P ops Q rest (fr.set s (dS (Arr R) xs)) hp):WL P ops Q rest fr (Zk v e R xs::hp):=WL.of fun _ _ _ _ _ hh hf=>h.on hh.drop (ZCM hf hs (d:=dS (Arr R) xs) (ZD5 hh))
theorem ZIP {α:Type} {R:Rel α} {_gR:Good R} {v:Value} {xs:List α} {s:Tmp} (hs:fr[s]?=some (dX v)) (h:WL P ops Q rest (fr.set s (dS (ArrK n R) xs)) hp):WL P ops Q rest fr (Zx v e n R xs::hp):=WL.of fun _ _ _ _ _ hh hf=>h.on hh.drop (ZCM hf hs (d:=dS (ArrK n R) xs) (ZEo hh))
theorem ZIM {c:Code} {α:Type} {R:Rel α} {_gR:Good R} {v:Value} {xs:List α} {s:Tmp} (hs:fr[s]?=some (dX v)) (h:WC P Q c (fr.set s (dS (Arr R) xs)) hp):WC P Q c fr (Zk v e R xs::hp):=WC.of fun _ _ _ _ _ hh hf=>h.on hh.drop (ZCM hf hs (d:=dS (Arr R) xs) (ZD5 hh))
theorem ZNC {α:Type} {R:Rel α} {PB:Nat->Prop} {w:World} {ad:Option Addr} {cap l h:Nat} {xs:List α} (hv:ArrK n R PB w (.slice ad xs.length cap) xs) (h1:l≤h) (h2:h≤xs.length) :
  ArrK n R PB w (.slice (if cap=l then ad else ad.map (·.add (l*n))) (h-l) (cap-l)) ((xs.drop l).take (h-l)):=by
 obtain⟨ad',cap',hv,c1,c2,c0,c3⟩:=hv;cases hv;have hlen:((xs.drop l).take (h-l)).length=h-l:=by simp;omega
 refine⟨_,_,by rw[hlen],by rw[hlen];omega,by omega,c0,fun k hk=>?_⟩;rw[hlen] at hk;obtain⟨u,b,off,r1,r2,r3,rfl,r4,r5⟩:=c3 (l+k) (by omega);have hne:¬ cap=l:=by omega
 refine⟨u,b,off+l*n,by simpa using r1,r2,r3,?_,r4,fun j c hc=>?_⟩
 ·rw[if_neg hne];simp[Addr.add_lit]
 ·have:=r5 j c hc;rw[Nat.add_mul] at this;rw[show off+l*n+k*n+j=off+(l*n+k*n)+j by omega];exact this
def BndD (fr:List Dat) (x:Option Operand) (dflt k:Nat):Prop:=(x=none/\k=dflt)\/∃y,x=some y/\OpD fr y (dI (k:Int))
theorem BndD.no {k:Nat}:BndD fr none k k:=.inl ⟨rfl,rfl⟩
theorem BndD.yes {y:Operand} {k m:Nat} (h:OpD fr y (dI (k:Int))):BndD fr (some y) m k:=.inr ⟨y,rfl,h⟩
theorem ZCt {y:Operand} {k m:Nat} {j:Int} (h:OpD fr y (dI j)) (hj:j=(k:Int)):BndD fr (some y) m k:=.inr ⟨y,rfl,by rw[<- hj];exact h⟩
theorem BndD.get {x:Option Operand} {dflt k:Nat} {o:Oper} {I:Nat->Prop} {w:World} {a:Act} (h:BndD fr x dflt k) (hm:∀y,x=some y->y∈o.op.operands.toList) (ho:On (o.looksAt ops) I w a fr):Bnd (x.map a.eval) dflt k:=by
 rcases h with ⟨rfl,h⟩|⟨y,rfl,h⟩
 ·exact .inl ⟨rfl,h⟩
 ·exact .inr ⟨.i64,by rw[Option.map_some];exact congrArg some (h.get (hm y rfl) ho)⟩
theorem ZGe {x:Operand} {lo hi:Option Operand} (E:ElT P t e 1 z bytes ag) {α:Type} {R:Rel α} {_gR:Good R} {xs:List α} {l h:Nat} (hx:OpD fr x (dS (Arr R) xs)) (hlo:BndD fr lo 0 l) (hhi:BndD fr hi xs.length h) (h1:l≤h) (h2:h≤xs.length) :
  SY P ops hp ⟨dst,.slice t x lo hi none,ty,ps,af,g⟩ fr (dS (Arr R) ((xs.drop l).take (h-l))):=ZWK fun {I w a} ho=>by
 have hv:Arr R I w (a.eval x) xs:=hx.get (by simp[Op.operands]) ho;have b1:=hlo.get (o:=⟨dst,.slice t x lo hi none,ty,ps,af,g⟩) (fun y hy=>by subst hy;simp[Op.operands]) ho;have b2:=hhi.get (o:=⟨dst,.slice t x lo hi none,ty,ps,af,g⟩) (fun y hy=>by subst hy;simp[Op.operands]) ho;have hv':=hv;obtain⟨ad,cap,he,c1,c2,c3⟩:=hv;rw[he] at hv';refine⟨_,?_,ZOs hv' h1 h2⟩;have hr:=ZFE (w:=w) (ad:=ad) E b1 b2 h1 (by omega:h≤cap);unfold execOp;simp only[he,Option.map_none,Sem.run_bind,hr,Result.andThen_ok,Sem.run_pure]
theorem ZJf {x:Operand} {lo hi:Option Operand} (E:ElT P t e n z bytes ag) {α:Type} {R:Rel α} {_gR:Good R} {xs:List α} {l h:Nat} (hx:OpD fr x (dS (ArrK n R) xs)) (hlo:BndD fr lo 0 l) (hhi:BndD fr hi xs.length h) (h1:l≤h) (h2:h≤xs.length) :
  SY P ops hp ⟨dst,.slice t x lo hi none,ty,ps,af,g⟩ fr (dS (ArrK n R) ((xs.drop l).take (h-l))):=ZWK fun {I w a} ho=>by
 have hv:ArrK n R I w (a.eval x) xs:=hx.get (by simp[Op.operands]) ho;have b1:=hlo.get (o:=⟨dst,.slice t x lo hi none,ty,ps,af,g⟩) (fun y hy=>by subst hy;simp[Op.operands]) ho;have b2:=hhi.get (o:=⟨dst,.slice t x lo hi none,ty,ps,af,g⟩) (fun y hy=>by subst hy;simp[Op.operands]) ho;have hv':=hv;obtain⟨ad,cap,he,c1,c2,c0,c3⟩:=hv;rw[he] at hv';refine⟨_,?_,ZNC hv' h1 h2⟩;have hr:=ZFE (w:=w) (ad:=ad) E b1 b2 h1 (by omega:h≤cap);unfold execOp;simp only[he,Option.map_none,Sem.run_bind,hr,Result.andThen_ok,Sem.run_pure]
theorem ZIK {x:Operand} {T T2:TypeId} {α:Type} {xs:List α} (hx:OpD fr x d) (hd:∀(I:Nat->Prop) (w:World) (v:Value),d.rd I w v->∃a m c,v = .slice a m c/\(a=none->m=0)) (hl:∀(I:Nat->Prop) (w:World) (v:Value),d.rd I w v->Len v xs.length) (hq:∀(x y:Operand) ad m c w,(do eqGuard .eql T x y (.slice ad m c) (.slice none 0 0);Go.binOp .eql T (.slice ad m c) (.slice none 0 0)).run P w = .ok (.bool ad.isNone) w) :
  SY P ops hp ⟨dst,.binOp .eql T x (.const (.slice none 0 0)) T2,ty,ps,af,g⟩ fr (dE (fun b:Bool=>b=true->xs=[]) dB):=ZWK fun {I w a} ho=>by
 have h1:=hx.get (by simp[Op.operands]) ho;obtain⟨ad,m,c,hv,hm⟩:=hd _ _ _ h1;obtain⟨a2,c2,hv2⟩:=hl _ _ _ h1;refine⟨.bool ad.isNone,?_,ad.isNone,fun hn=>?_,rfl⟩
 ·have:=hq x (.const (.slice none 0 0)) ad m c w;unfold execOp;have hc:a.eval (.const (.slice none 0 0)) = .slice none 0 0:=rfl;simp only[hv,hc];rw[Sem.run_bind,this];simp
 ·rw[hv] at hv2;cases hv2;have h0:ad=none:=by simpa using hn
  exact List.eq_nil_of_length_eq_zero (hm h0)

def ZQt (x y:Int):Int:=IntKind.i64.wrap (BitVec.ofInt 64 x &&& BitVec.ofInt 64 y).toNat
def ior (x y:Int):Int:=IntKind.i64.wrap (BitVec.ofInt 64 x ||| BitVec.ofInt 64 y).toNat
def ZRt (x:Int) (y:Int):Int:=IntKind.i64.wrap (x*2 ^ min y.toNat 64)
def ZQu (x:Int) (y:Int):Int:=x.fdiv (2 ^ min y.toNat 64)
section
variable {x y:Operand} {T T2:TypeId} {p q:Int} (hx:OpD fr x (dI p)) (hy:OpD fr y (dI q))
include hx hy
theorem SY.and:SY P ops hp ⟨dst,.binOp .and T x y T2,ty,ps,af,g⟩ fr (dI (ZQt p q)):=ZAr hx hy (fun w=>by simp[Go.binOp,Op.intBits];rfl) fun _ _=>rfl
theorem SY.or:SY P ops hp ⟨dst,.binOp .or T x y T2,ty,ps,af,g⟩ fr (dI (ior p q)):=ZAr hx hy (fun w=>by simp[Go.binOp,Op.intBits];rfl) fun _ _=>rfl
theorem SY.shl (h:0≤q):SY P ops hp ⟨dst,.binOp .shl T x y T2,ty,ps,af,g⟩ fr (dI (ZRt p q)):=ZAr hx hy (fun w=>by
 have:¬ q<0:=by omega
 simp[Go.binOp,Op.shift,this];rfl) fun _ _=>rfl
theorem SY.shr (h:0≤q):SY P ops hp ⟨dst,.binOp .shr T x y T2,ty,ps,af,g⟩ fr (dI (ZQu p q)):=ZAr hx hy (fun w=>by
 have:¬ q<0:=by omega
 simp[Go.binOp,Op.shift,this];rfl) fun _ _=>rfl
theorem SY.rem (h:q≠0):SY P ops hp ⟨dst,.binOp .rem T x y T2,ty,ps,af,g⟩ fr (dI (p.tmod q)):=ZAr hx hy (fun w=>by simp[Go.binOp,Op.intDiv,h]) fun _ _=>rfl
theorem SY.quo (h:q≠0) (hr : -9223372036854775808≤p.tdiv q/\p.tdiv q≤9223372036854775807):SY P ops hp ⟨dst,.binOp .quo T x y T2,ty,ps,af,g⟩ fr (dI (p.tdiv q)):=ZAr hx hy (fun w=>by simp[Go.binOp,Op.intDiv,h,ZCq hr]) fun _ _=>rfl
end
theorem ZTG (p q:Int × Int):(decide (p.1=q.1) && decide (p.2=q.2))=decide (p=q):=by
 obtain⟨a,b⟩:=p;obtain⟨c,d⟩:=q;simp[Prod.mk.injEq]

structure VxT (P:Program) (T:TypeId):Prop where
 fld0:∀b off w,(Instr.fieldAt T (.pointer (some ⟨b,off,none⟩)) 0).run P w = .ok (.pointer (some ⟨b,off+0,none⟩)) w
 fld1:∀b off w,(Instr.fieldAt T (.pointer (some ⟨b,off,none⟩)) 1).run P w = .ok (.pointer (some ⟨b,off+1,none⟩)) w
 eql:∀(x y:Operand) p q p' q' w,(do eqGuard .eql T x y (.agg #[.int .i64 p,.int .i64 q]) (.agg #[.int .i64 p',.int .i64 q']);Go.binOp .eql T (.agg #[.int .i64 p,.int .i64 q]) (.agg #[.int .i64 p',.int .i64 q'])).run P w = .ok (.bool (decide (p=p') && decide (q=q'))) w
 neq:∀(x y:Operand) p q p' q' w,(do eqGuard .neq T x y (.agg #[.int .i64 p,.int .i64 q]) (.agg #[.int .i64 p',.int .i64 q']);Go.binOp .neq T (.agg #[.int .i64 p,.int .i64 q]) (.agg #[.int .i64 p',.int .i64 q'])).run P w = .ok (.bool (!(decide (p=p') && decide (q=q')))) w
 mkv:∀p q w,(Instr.build T #[(0,.int .i64 p),(1,.int .i64 q)]).run P w = .ok (.agg #[.int .i64 p,.int .i64 q]) w
 mk0:∀p w,(Instr.build T #[(0,.int .i64 p)]).run P w = .ok (.agg #[.int .i64 p,.int .i64 0]) w
 mk1:∀q w,(Instr.build T #[(1,.int .i64 q)]).run P w = .ok (.agg #[.int .i64 0,.int .i64 q]) w
section
variable {T T2:TypeId} (V:VxT P T) {x y:Operand} {p q:Int × Int}
include V
theorem SY.fld0 (hx:OpD fr x (dP 2 true (dS RV p))):SY P ops hp ⟨dst,.fieldAddr T x 0,ty,ps,af,g⟩ fr (dP 1 false (dI p.1)):=ZWK fun {I w a} ho=>by
 obtain⟨b,off,u,h1,⟨hb,cs,k1,k0,k2,k3,k4⟩,h3⟩:=hx.get (by simp[Op.operands]) ho;have hu:u = .agg #[.int .i64 p.1,.int .i64 p.2]:=h3;simp only[if_true] at k4;rw[k4] at hu;have hcs:cs=[.int .i64 p.1,.int .i64 p.2]:=by injection hu with hu;exact List.toArray_inj hu
 subst hcs;refine⟨_,?_,b,off+0,.int .i64 p.1,rfl,⟨hb,[.int .i64 p.1],rfl,Nat.one_pos,by simp[Value.oneCell'],fun j c hc=>?_,rfl⟩,rfl⟩
 ·unfold execOp;simp only[h1,Sem.run_bind,V.fld0,Result.andThen_ok,Sem.run_pure]
 ·have hj:j=0:=by have:=(List.getElem?_eq_some_iff.1 hc).1;simpa using this
  subst hj;cases hc;exact k3 0 _ rfl
theorem SY.fld1 (hx:OpD fr x (dP 2 true (dS RV p))):SY P ops hp ⟨dst,.fieldAddr T x 1,ty,ps,af,g⟩ fr (dP 1 false (dI p.2)):=ZWK fun {I w a} ho=>by
 obtain⟨b,off,u,h1,⟨hb,cs,k1,k0,k2,k3,k4⟩,h3⟩:=hx.get (by simp[Op.operands]) ho;have hu:u = .agg #[.int .i64 p.1,.int .i64 p.2]:=h3;simp only[if_true] at k4;rw[k4] at hu;have hcs:cs=[.int .i64 p.1,.int .i64 p.2]:=by injection hu with hu;exact List.toArray_inj hu
 subst hcs;refine⟨_,?_,b,off+1,.int .i64 p.2,rfl,⟨hb,[.int .i64 p.2],rfl,Nat.one_pos,by simp[Value.oneCell'],fun j c hc=>?_,rfl⟩,rfl⟩
 ·unfold execOp;simp only[h1,Sem.run_bind,V.fld1,Result.andThen_ok,Sem.run_pure]
 ·have hj:j=0:=by have:=(List.getElem?_eq_some_iff.1 hc).1;simpa using this
  subst hj;cases hc;exact k3 1 _ rfl
theorem ZGc (hx:OpD fr x (dS RV p)) (hy:OpD fr y (dS RV q)):SY P ops hp ⟨dst,.binOp .eql T x y T2,ty,ps,af,g⟩ fr (dB (decide (p=q))):=ZWK fun {I w a} ho=>by
 have h1:a.eval x = .agg #[.int .i64 p.1,.int .i64 p.2]:=hx.get (by simp[Op.operands]) ho;have h2:a.eval y = .agg #[.int .i64 q.1,.int .i64 q.2]:=hy.get (by simp[Op.operands]) ho;refine⟨.bool (decide (p=q)),?_,rfl⟩;have:=V.eql x y p.1 p.2 q.1 q.2 w;rw[ZTG] at this;unfold execOp;simp only[h1,h2];rw[Sem.run_bind,this];simp
theorem ZTS (hx:OpD fr x (dS RV p)) (hy:OpD fr y (dS RV q)):SY P ops hp ⟨dst,.binOp .neq T x y T2,ty,ps,af,g⟩ fr (dB (!decide (p=q))):=ZWK fun {I w a} ho=>by
 have h1:a.eval x = .agg #[.int .i64 p.1,.int .i64 p.2]:=hx.get (by simp[Op.operands]) ho;have h2:a.eval y = .agg #[.int .i64 q.1,.int .i64 q.2]:=hy.get (by simp[Op.operands]) ho;refine⟨.bool (!decide (p=q)),?_,rfl⟩;have:=V.neq x y p.1 p.2 q.1 q.2 w;rw[ZTG] at this;unfold execOp;simp only[h1,h2];rw[Sem.run_bind,this];simp
theorem ZUr {a b:Int} (hx:OpD fr x (dI a)) (hy:OpD fr y (dI b)):SY P ops hp ⟨dst,.build T #[(0,x),(1,y)],ty,ps,af,g⟩ fr (dS RV (a,b)):=ZWK fun {I w a'} ho=>by
 have h1:a'.eval x = .int .i64 a:=hx.get (by simp[Op.operands]) ho;have h2:a'.eval y = .int .i64 b:=hy.get (by simp[Op.operands]) ho;refine⟨.agg #[.int .i64 a,.int .i64 b],?_,rfl⟩;unfold execOp;simp only[List.map_toArray,List.map_cons,List.map_nil,h1,h2,Sem.run_bind,V.mkv,Result.andThen_ok,Sem.run_pure]
theorem ZTR {a:Int} (hx:OpD fr x (dI a)):SY P ops hp ⟨dst,.build T #[(0,x)],ty,ps,af,g⟩ fr (dS RV (a,0)):=ZWK fun {I w a'} ho=>by
 have h1:a'.eval x = .int .i64 a:=hx.get (by simp[Op.operands]) ho;refine⟨.agg #[.int .i64 a,.int .i64 0],?_,rfl⟩;unfold execOp;simp only[List.map_toArray,List.map_cons,List.map_nil,h1,Sem.run_bind,V.mk0,Result.andThen_ok,Sem.run_pure]
end
end

end
end Go.Proofs.YtofkoleingbbpaaGreatDoor
namespace Go.Proofs.YtofkoleingbbpaaGreatDoor
def ZWF:=@WL.alloc
def ZWW:=@WL.appK
def ZWX:=@WL.app1
def ZWa:=@SY.rem
end Go.Proofs.YtofkoleingbbpaaGreatDoor
