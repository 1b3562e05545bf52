/- Part 6 of the proof. -/
import Derived.Test.YtofkoleingbbpaaGreatDoorProg
import Derived.Test.YtofkoleingbbpaaGreatDoorZa5
set_option linter.all false
set_option maxRecDepth 100000
set_option maxHeartbeats 64000000
namespace Go.Proofs.YtofkoleingbbpaaGreatDoor
section
open Go.RowKit
structure SW (P:Program) (ops:Array Oper) (hp:List HObj) {β:Type} (H:β->List HObj) (D:β->Dat) (o:Oper) (fr:List Dat):Prop where
 guard:o.guard=none
 out:∀ {P0:Nat->Prop} {B:Nat} {w0 w:World} {a:Act},Hp P0 B w0 hp w->On (o.looksAt ops) (Imm P0 B hp) w a fr->∀(K:Act->World->Prop) (Q:Exit->Act->World->Prop),
  (∀(x:β) (v:Value) (w':World),Hp P0 B w0 (H x) w'->(∀(d:Dat) (u:Value),d.rd (Imm P0 B hp) w u->d.rd (Imm P0 B (H x)) w' u)->(D x).rd (Imm P0 B (H x)) w' v->K (a.put o.dst v) w')->o.wp P a w K Q
def HH {β:Type} (hp:List HObj) (H:β->List HObj):Option β->List HObj
 | none=>hp
 | some x=>H x
theorem HH.mem {β:Type} {hp:List HObj} {H:β->List HObj} {c:Option β} {o:HObj} (h:o∈hp) (k:∀x,o∈H x):o∈HH hp H c:=by
 cases c with
 | none=>exact h
 | some x=>exact k x
section
variable {P:Program} {ops:Array Oper} {hp:List HObj} {md:Region.Mode} {β:Type} {H:β->List HObj} {D:β->Dat} {dd:Nat->Dat} {m:Nat} {fr fr':List Dat} {o:Oper}
theorem SW.same (h:SW P ops hp H D o fr) (hl:fr'.length=fr.length) (hs:∀t∈o.looksAt ops,fr'[t]?=fr[t]?):SW P ops hp H D o fr':=⟨h.guard,fun hh ho K Q hk=>h.out hh (ho.same hl hs) K Q hk⟩
def sOpW (P:Program) (ops:Array Oper) (hp:List HObj) {β:Type} (H:β->List HObj) (D:β->Dat) (dd:Nat->Dat) (m:Nat) (i:Nat) (K:List Dat->Option β->Prop) (fr:List Dat) (c:Option β):Prop :=
 ∃o,ops[i]?=some o/\((i=m/\c=none/\SW P ops hp H D o fr/\∀x,K (ZC fr o.dst (D x)) (some x))\/(i≠m/\(∀c,SYG P ops (HH hp H c) o fr (dd i))/\K (ZC fr o.dst (dd i)) c))
def ZF3 (P:Program) (md:Region.Mode) (ops:Array Oper) (hp:List HObj) {β:Type} (H:β->List HObj) (D:β->Dat) (dd:Nat->Dat) (m n:Nat) (L:Array Bool->List Dat->Option β->Prop):Nat->Array Bool->List Dat->Option β->Prop
 | 0,listed,fr,c=>L listed fr c
 | f+1,listed,fr,c =>
  Region.ready md ops listed≠[]/\∀i∈Region.ready md ops listed,i<n/\sOpW P ops hp H D dd m i (ZF3 P md ops hp H D dd m n L f (listed.setIfInBounds i true)) fr c
theorem ZCp {n g:Nat} {L:Array Bool->List Dat->Option β->Prop} {Q':Exit->Act->World->Prop} {P0:Nat->Prop} {B:Nat} {w0:World}:∀(f:Nat) (listed:Array Bool) (fr:List Dat) (c:Option β) (a:Act) (w:World),Hp P0 B w0 (HH hp H c) w->Fr (Imm P0 B (HH hp H c)) w a fr ->
  (∀listed fr c a w',Hp P0 B w0 (HH hp H c) w'->Fr (Imm P0 B (HH hp H c)) w' a fr->L listed fr c->wpAny P md ops Q' g listed a w')->ZF3 P md ops hp H D dd m n L f listed fr c->wpAny P md ops Q' (f+g) listed a w
 | 0,listed,fr,c,a,w,hh,hf,hL,h=>by rw[Nat.zero_add];exact hL _ _ _ _ _ hh hf h
 | f+1,listed,fr,c,a,w,hh,hf,hL,h=>by
  rw[show f+1+g=(f+g)+1 by omega];refine⟨fun h0=>absurd h0 h.1,fun i hi=>?_⟩;obtain⟨o,ho,h1⟩:=(h.2 i hi).2;unfold wpOp;simp only[ho];rcases h1 with ⟨hm,hc,hw,hk⟩|⟨hm,hs,hk⟩
  ·subst hc;have hwant:Region.wanted o (yielded ops a.tmps)=true:=by simp[Region.wanted,hw.guard]
   rw[if_pos hwant];refine .inl (hw.out hh (hf.on _) _ _ fun x v w' hh' hrd hd=>?_);exact ZCp f _ _ (some x) _ _ hh' (ZWN (hf.mono fun d u hu=>hrd d u hu) hd) hL (hk x)
  ·have:=(hs c).step (Q:=Q') hh hf (K:=wpAny P md ops Q' (f+g) (listed.setIfInBounds i true)) fun a' w' e hf'=>ZCp f _ _ c _ _ (hh.ext e) hf' hL hk;split
   ·rename_i hw;rw[if_pos hw] at this;exact .inl this
   ·rename_i hw;rw[if_neg hw] at this;exact this
theorem ZK5 {n i:Nat} {oi:Oper} {L:Array Bool->List Dat->Option β->Prop} (hi:ops[i]?=some oi) (him:i≠m)
  (hs:Region.sinkB md ops n=true) (hc:Region.chainB md ops n=true) (hn:n<ops.size) (hin:i<n)
  (hdone:∀listed a c,L listed a c->∀j∈Region.ready md ops listed,n≤j) :
  ∀(f:Nat) (listed:Array Bool) (fr:List Dat) (c:Option β),HeadInv md ops n listed ->
   (∀j oj,ops[j]?=some oj->j≠i->listed.getD j true=false->(∀e∈oj.after,Region.binds md e=true->e.on≠i)->oi.apart ops oj=true) ->
   i∈Region.ready md ops listed->(∀c,SYG P ops (HH hp H c) oi fr (dd i)) ->
   ZF3 P md ops hp H D dd m n L f (listed.setIfInBounds i true) (ZC fr oi.dst (dd i)) c->ZF3 P md ops hp H D dd m n L (f+1) listed fr c:=by
 intro f;induction f with
 | zero =>
  intro listed fr c inv _ hr hy H;have hun:=(mem_ready.1 hr).1;refine⟨fun h=>(by rw[h] at hr;cases hr),fun j hj=>?_⟩;have hjn:j<n:=by
   rcases Nat.lt_or_ge j n with h|h
   ·exact h
   ·exact absurd hj (tail_waits hs hc hn inv _ i rfl hin hun j h)
  refine⟨hjn,?_⟩;by_cases hji:j=i
  ·subst hji;exact⟨oi,hi,.inr ⟨him,hy,H⟩⟩
  ·have:=hdone _ _ _ H j (ready_mono hj hji);omega
 | succ f ih =>
  intro listed fr c inv hfree hr hy H;have hun:=(mem_ready.1 hr).1;refine⟨fun h=>(by rw[h] at hr;cases hr),fun j hj=>?_⟩;have hjn:j<n:=by
   rcases Nat.lt_or_ge j n with h|h
   ·exact h
   ·exact absurd hj (tail_waits hs hc hn inv _ i rfl hin hun j h)
  refine⟨hjn,?_⟩;by_cases hji:j=i
  ·subst hji;exact⟨oi,hi,.inr ⟨him,hy,H⟩⟩
  ·obtain⟨oj',hoj',h1⟩:=(H.2 j (ready_mono hj hji)).2;obtain⟨hjun,oj,hoj,hall⟩:=mem_ready.1 hj;have hoo:oj=oj':=by rw[hoj] at hoj';simpa using hoj'
   subst hoo;have hnot:∀e∈oj.after,Region.binds md e=true->e.on≠i:=fun e he hb heq=>by
    have h1:=hall e he hb;rw[heq,getD_both hun] at h1;cases h1
   obtain⟨a1,a2,a3⟩:=Oper.apart_spec (hfree j oj hoj hji hjun hnot);have hfree':∀k ok,ops[k]?=some ok->k≠i->(listed.setIfInBounds j true).getD k true=false ->
     (∀e∈ok.after,Region.binds md e=true->e.on≠i)->oi.apart ops ok=true:=fun k ok hk hki hun hno=>by
    refine hfree k ok hk hki ?_ hno;by_cases hjk:j=k
    ·subst hjk;exact hjun
    ·rw[getD_set_ne true hjk] at hun;exact hun
   have key:∀(d:Dat) (c':Option β),ZF3 P md ops hp _ D dd m n L f ((listed.setIfInBounds i true).setIfInBounds j true) (ZC (ZC fr oi.dst (dd i)) oj.dst d) c' ->
     ZF3 P md ops hp _ D dd m n L (f+1) (listed.setIfInBounds j true) (ZC fr oj.dst d) c':=fun d c' hk=>by
    refine ih (listed.setIfInBounds j true) (ZC fr oj.dst d) c' (inv.set hj hjn) hfree' (ready_mono hr (Ne.symm hji)) (fun c=>(hy c).same (Z5 _ _ _) fun t ht=>ZAE fun e=>a3 t e ht) ?_;rw[Array.setIfInBounds_comm _ _ hji,<- ZDH fr (dd i) d a2];exact hk
   refine⟨oj,hoj,?_⟩;rcases h1 with ⟨hm,hcn,hw,hk⟩|⟨hm,hs',hk⟩
   ·exact .inl ⟨hm,hcn,hw.same (Z5 _ _ _).symm fun t ht=>(ZAE fun e=>a1 t e ht).symm,fun x=>key _ _ (hk x)⟩
   ·exact .inr ⟨hm,fun c=>(hs' c).same (Z5 _ _ _).symm fun t ht=>(ZAE fun e=>a1 t e ht).symm,key _ _ hk⟩
inductive WDs (P:Program) (ops:Array Oper) (hp:List HObj) {β:Type} (H:β->List HObj) (Q:List Dat->Prop):List Oper->List Dat->Prop
 | nil {fr:List Dat}:Q fr->WDs P ops hp H Q [] fr
 | op {o:Oper} {rest:List Oper} {fr:List Dat} {d:Dat}:(∀c,SYG P ops (HH hp H c) o fr d)->WDs P ops hp H Q rest (ZC fr o.dst d)->WDs P ops hp H Q (o::rest) fr
theorem WDs.id {Q:List Dat->Prop} {l:List Oper} {f:List Dat} (h:WDs P ops hp H Q l f):WDs P ops hp H Q l f:=h
def ChD (P:Program) (ops:Array Oper) (hp:List HObj) {β:Type} (H:β->List HObj) (dd:Nat->Dat) (Q:List Dat->Prop):List Oper->Nat->List Dat->Prop
 | [],_,fr=>Q fr
 | o::rest,k,fr=>(∀c,SYG P ops (HH hp H c) o fr (dd k))/\ChD P ops hp H dd Q rest (k+1) (ZC fr o.dst (dd k))
theorem ZJW {dd':Nat->Dat} {Q:List Dat->Prop}:∀(l:List Oper) (k:Nat) (fr:List Dat),(∀j,k≤j->dd j=dd' j)->ChD P ops hp H dd Q l k fr->ChD P ops hp H dd' Q l k fr
 | [],_,_,_,h=>h
 | _::rest,k,_,he,h=>by
  refine⟨by rw[<- he k (Nat.le_refl _)];exact h.1,?_⟩;rw[<- he k (Nat.le_refl _)];exact ZJW rest (k+1) _ (fun j hj=>he j (by omega)) h.2
theorem WDs.ch {Q:List Dat->Prop}:∀(l:List Oper) (k:Nat) (fr:List Dat),WDs P ops hp H Q l fr->∃dd,ChD P ops hp H dd Q l k fr
 | [],_,_,h=>⟨fun _=>dA,by cases h;assumption⟩
 | _::rest,k,_,h=>by
  cases h;rename_i d hd hr;obtain⟨dd,h1⟩:=WDs.ch rest (k+1) _ hr;refine⟨fun j=>if j=k then d else dd j,?_,?_⟩
  ·simpa using hd
  ·simp only[if_true];exact ZJW rest (k+1) _ (fun j hj=>by rw[if_neg (by omega)]) h1
theorem ZFv {n g:Nat} {Lq:List Dat->Option β->Prop} {ow:Oper} (how:ops[m]?=some ow) (hs:Region.sinkB md ops (m+1)=true) (hc:Region.chainB md ops (m+1)=true) (hn:m+1<ops.size) :
  ∀(l:List Oper) (k:Nat) (listed:Array Bool) (fr:List Dat),(∀j,j<l.length->l[j]?=ops[k+j]?)->k+l.length=m->HeadInv md ops (m+1) listed->(∀j,j<k->listed.getD j true=true) ->
  Region.lexHead md ops g (l.length+1) k listed=true->ChD P ops hp H dd (fun fr=>SW P ops hp H D ow fr/\∀x,Lq (ZC fr ow.dst (D x)) (some x)) l k fr ->
  ZF3 P md ops hp H D dd m (m+1) (fun listed' a' c'=>Region.seqB md ops g (m+1) listed'=true/\Lq a' c') (l.length+1) listed fr none
 | [],k,listed,fr,hl,hk,inv,hbefore,hB,h=>by
  have hkm:k=m:=by simpa using hk
  subst hkm;simp only[List.length_nil,Region.lexHead,Bool.and_eq_true] at hB;obtain⟨⟨hr,hf⟩,hB'⟩:=hB;have hr':k∈Region.ready md ops listed:=by simpa using hr
  have hun:=(mem_ready.1 hr').1;refine⟨fun h0=>(by rw[h0] at hr';cases hr'),fun i hi=>?_⟩;have hile:i<k+1:=by
   rcases Nat.lt_or_ge i (k+1) with h1|h1
   ·exact h1
   ·exact absurd hi (tail_waits hs hc hn inv _ k rfl (by omega) hun i h1)
  have hik:i=k:=by
   rcases Nat.lt_or_ge i k with h1|h1
   ·have h2:=(mem_ready.1 hi).1;rw[hbefore i h1] at h2;cases h2
   ·omega
  subst hik;exact⟨by omega,ow,how,.inl ⟨rfl,rfl,h.1,fun x=>⟨hB',h.2 x⟩⟩⟩
 | o::l,k,listed,fr,hl,hk,inv,hbefore,hB,h=>by
  have h0:ops[k]?=some o:=by simpa using(hl 0 (by simp)).symm
  simp only[List.length_cons] at hB;rw[Region.lexHead] at hB;simp only[Bool.and_eq_true] at hB;obtain⟨⟨hr,hf⟩,hB'⟩:=hB;have hkn:k<m:=by simp only[List.length_cons] at hk;omega
  have hr':k∈Region.ready md ops listed:=by simpa using hr
  have hklt:k<listed.size:=by rw[inv.size];omega
  exact ZK5 h0 (by omega) hs hc hn (by omega) (fun listed' a' c' hL=>seqB_ready hL.1) (l.length+1) listed fr none inv (Region.free_spec h0 hf) hr' h.1
   (ZFv (n:=n) how hs hc hn l (k+1) _ _ (fun j hj=>by have:=hl (j+1) (by simp;omega);simpa[Nat.add_assoc,Nat.add_comm 1 j] using this) (by simp only[List.length_cons] at hk;omega) (inv.set hr' (by omega))
    (fun j hj=>by
     by_cases hjk:k=j
     ·subst hjk;simp[hklt]
     ·rw[getD_set_ne true hjk];exact hbefore j (by omega)) hB' h.2)
theorem WC.drawW {id:Nat} {l:List Oper} {Q:Z4} (n:Nat) (H:β->List HObj) (D:β->Dat) (ow:Oper) (how:l[n]?=some ow) (hm:P.follows .mixedOrders=true) (hB:Region.lexTailB .any l.toArray (n+1)=true)
  (h:WDs P l.toArray hp H (fun f=>SW P l.toArray hp H D ow f/\∀x,WL P l.toArray Q (l.drop (n+1)) (ZC f ow.dst (D x)) (H x)) (l.take n) fr):WC P Q (.region id l.toArray true) fr hp:=by
 refine WC.of fun P0 B w0 w a hh hf=>?_;simp only[Region.lexTailB,Bool.and_eq_true,decide_eq_true_eq] at hB;obtain⟨⟨⟨⟨hsel,hn⟩,hs⟩,hc⟩,hlex⟩:=hB;have hn':n+1<l.length:=by simpa using hn
 have htl:(l.take n).length=n:=by simp;omega
 have hdl:(l.drop (n+1)).length=l.toArray.size-(n+1):=by simp
 have inv0:HeadInv .any l.toArray (n+1) (Array.replicate l.toArray.size false) :=
  ⟨by simp,fun j oj _ hl=>(by rw[getD_replicate_false] at hl;cases hl),fun t _ ht=>getD_in (by simpa using ht) (getD_replicate_false _ _)⟩
 obtain⟨dd,hch⟩:=h.ch (l.take n) 0 fr;have HW:=ZFv (n:=n) (Lq:=fun f c=>WL P l.toArray Q (l.drop (n+1)) f (HH hp H c)) (md:=.any) (g:=l.toArray.size-(n+1)) (ow:=ow) (m:=n) (by simpa using how) hs hc hn (l.take n) 0 _ fr (fun j hj=>by
  have hj':j<n:=by rw[htl] at hj;exact hj
  simp[hj']) (by simpa using htl) inv0 (fun j hj=>by omega) (by rw[htl];exact hlex) hch
 have hx:Ext w { w with drawn:=w.drawn+1 }:=(ZWS w).drew;refine wp_region_any hm ?_;have:=ZCp (Q':=ZCs Q P0 B w0) (g:=l.toArray.size-(n+1)) _ _ _ none _ _ (hh.ext hx) (hf.ext hx) (fun listed fr' c a' w' hh' hf' hL=>by
  have:=wpAny_of_seq (md:=.any) (Q':=ZCs Q P0 B w0) (l.drop (n+1)) (n+1) listed a' w' (fun j=>by simp[List.getElem?_drop]) (by rw[hdl];exact hL.1) (hL.2.on hh' hf');rwa[hdl] at this) HW
 rw[htl,show n+1+(l.toArray.size-(n+1))=l.toArray.size by omega] at this;exact this
theorem ZBk {Q:Z4} {rest:List Oper} (h:SW P ops hp H D o fr) (k:∀x,WL P ops Q rest (ZC fr o.dst (D x)) (H x)):WL P ops Q (o::rest) fr hp:=WL.of fun P0 B w0 w a hh hf=>by
 unfold wpList;have hwant:Region.wanted o (yielded ops a.tmps)=true:=by simp[Region.wanted,h.guard]
 rw[if_pos hwant];exact .inl (h.out hh (hf.on _) _ _ fun x v w' hh' hrd hd=>(k x).on hh' (ZWN (hf.mono fun d u hu=>hrd d u hu) hd))
end
section
variable {P:Program} {ops:Array Oper} {hp:List HObj} {fr:List Dat} {d:Dat}
variable {dst:Option Tmp} {ty:TypeId} {ps:String} {af:Array Edge} {b cap N bytes:Nat} {e t T T2:TypeId} {xs:List Vx} {z:Value} {ag:Bool}
theorem ZQ1 {k:Nat} {j:Int} {y:Operand} (E:ElT P t e 2 z bytes ag) (hy:OpD fr y (dI j)) (hj:j=(k:Int)) (hb:bytes*k≤281474976710656) (hm:k≤maxLen) :
  SW P ops hp (fun b:Nat=>hV b 0 k e []::hp) (fun b=>dX (.slice (some ⟨b,0,none⟩) 0 k)) ⟨dst,.makeSlice t (.const (.int .i64 0)) y,ty,ps,af,none⟩ fr:=⟨rfl,fun {P0 B w0 w a} hh ho K Q hk=>by
 have h1:a.eval y = .int .i64 k:=by rw[<- hj];exact hy.get (by simp[Op.operands]) ho
 obtain⟨i,hi,hz,hsz,hbt⟩:=info_parts E.info;obtain⟨w',hr,r1,r2⟩:=run_make_own (P:=P) w 0 t e i z 2 E.und hi hz hsz .i64 .i64 k (by rw[hbt];exact hb) hm (Nat.zero_le _);have hrun:(execOp a.eval ⟨dst,.makeSlice t (.const (.int .i64 0)) y,ty,ps,af,none⟩).run P w = .ok (.value (.slice (some ⟨w.heap.size,0,none⟩) 0 k)) w':=by
  unfold execOp;have hc:a.eval (.const (.int .i64 0)) = .int .i64 0:=rfl;simp only[h1,hc,Sem.run_bind,hr,Result.andThen_ok,Sem.run_pure]
 unfold Oper.wp;rw[hrun];have hx:Ext w w':=⟨r2.os,r2.tape,r2.output,r2.size,fun k hk=>r2.block k hk (by simp)⟩;have hb:∀q,(hV w.heap.size 0 k e []).blk=some q->w.heap.size≤q/\q<w'.heap.size:=fun q hq=>by
  cases hq;exact⟨Nat.le_refl _,(r1.lt _ rfl).2⟩
 exact hk w.heap.size _ w' (hh.push hx hb (ZKX (xs:=[]) r1)) (fun d u hd=>ZAJ hx (fun k hk=>(hb k hk).1) hd) rfl⟩
theorem SW.pushO {s y:Operand} {v:Vx} (E:ElT P t e 2 z bytes ag) (hs:OpD fr s (dX (.slice (some ⟨b,0,none⟩) N cap))) (hy:OpD fr y (dS (ArrK 2 RV) [v])) (hN:N+1≤cap) :
  SW P ops (hV b N cap e xs::hp) (fun _:Unit=>hV b (N+1) cap e (xs++[v])::hp) (fun _=>dX (.slice (some ⟨b,0,none⟩) (N+1) cap)) ⟨dst,.call { callee:=.builtin .append,args:=#[s,y],argTypes:=#[t,t] },ty,ps,af,none⟩ fr:=⟨rfl,fun {P0 B w0 w a} hh ho K Q hk=>by
 obtain⟨ad,cap',hv,c1,c2,c0,c3⟩:=(hy.get (by simp[Op.operands,Call.operands]) ho:ArrK 2 RV _ _ _ _);obtain⟨cs,b',off,r1,r2,r3,r4,r5,r6⟩:=c3 0 (by simp);subst r4;have hNx:=(ZEX.1 (hh.ok (hV b N cap e xs) (by simp))).1;have hown:=ZPs (hh.ok (hV b N cap e xs) (by simp));obtain⟨i,hi,hz,hsz,hbt⟩:=info_parts E.info;subst hNx;have hcs:cs=ZCr v:=by
  have h1:Value.agg cs.toArray=Value.agg (ZCr v).toArray:=r1;have h2:cs.toArray=(ZCr v).toArray:=by injection h1
  have:=congrArg Array.toList h2;simpa using this
 obtain⟨w',hr,q1,q2⟩:=run_append_fits (P:=P) w 0 t ty e i 2 E.und hi hsz b xs.length cap (Zs xs) hown ⟨b',off,none⟩ 1 cap' cs (by rw[r2]) (fun j u hu=>by rw[Addr.add_lit];simpa using r6 j u hu) r3 hN;have hse:a.eval s = .slice (some ⟨b,0,none⟩) xs.length cap:=hs.get (by simp[Op.operands,Call.operands]) ho;have hrun:(execOp a.eval ⟨dst,.call { callee:=.builtin .append,args:=#[s,y],argTypes:=#[t,t] },ty,ps,af,none⟩).run P w = .ok (.value (.slice (some ⟨b,0,none⟩) (xs.length+1) cap)) w':=by
  unfold execOp;simp only[resolve,invoke,builtin,List.map_toArray,List.map_cons,List.map_nil,hse,hv,Sem.run_bind,Sem.run_pure,Result.andThen_ok];have e0:([v]:List Vx).length=1:=rfl;rw[e0,hr];simp
 unfold Oper.wp;rw[hrun];have hfl:Zs xs++cs=Zs (xs++[v]):=by rw[ZBZ,hcs];rfl
 rw[hfl] at q1;have hok:(hV b (xs.length+1) cap e (xs++[v])).ok (fun k=>Imm P0 B (hV b xs.length cap e xs::hp) k/\k<w.heap.size) w':=ZKX (by simpa using q1);exact hk () _ w' (hh.write (o':=hV b (xs.length+1) cap e (xs++[v])) q2 (.inl rfl) hok) (fun d u hd=>Zd (o:=hV b xs.length cap e xs) (o':=hV b (xs.length+1) cap e (xs++[v])) q2 (.inl rfl) hd) rfl⟩
end
section
variable {P:Program} {ops:Array Oper} {hp:List HObj} {fr:List Dat} {d:Dat}
variable {dst:Option Tmp} {ty:TypeId} {ps:String} {af:Array Edge}
theorem ZN5 {b cap bytes:Nat} {e t:TypeId} {xs:List Vx} {z:Value} {ag:Bool} {s y:Operand} {v:Vx} (E:ElT P t e 2 z bytes ag) (hs:OpD fr s (dX (ZS8 b cap xs))) (hy:OpD fr y (dS (ArrK 2 RV) [v])) (hN:xs.length+1≤cap) :
  SW P ops (hV b xs.length cap e xs::hp) (fun _:Unit=>hV b (xs++[v]).length cap e (xs++[v])::hp) (fun _=>dX (ZS8 b cap (xs++[v]))) ⟨dst,.call { callee:=.builtin .append,args:=#[s,y],argTypes:=#[t,t] },ty,ps,af,none⟩ fr:=by
 have h:=SW.pushO (hp:=hp) (ops:=ops) (dst:=dst) (ty:=ty) (ps:=ps) (af:=af) (xs:=xs) E hs hy hN;have hl:(xs++[v]).length=xs.length+1:=by simp
 unfold ZS8;rw[hl];exact h
def hAll (I0:Nat->Prop) (w0:World):HObj where
 blk:=none
 ok:=fun I w=>∀(d:Dat) (u:Value),d.rd I0 w0 u->d.rd I w u
 weak:=fun h q d u hd=>d.weak (h d u hd) q
 bound:=fun h d u hd=>d.bound (h d u hd)
 move:=fun h hg hP _ d u hd=>d.grown (h d u hd) hg hP
theorem SW.callC {f:FuncId} {caps:List Value} {cl:Operand} {args:Array Operand} {ats:Array TypeId} {ds1:List Dat} {hp1:List HObj} {K:Dat->List HObj->Prop} {β:Type} {H:β->List HObj} {D:β->Dat} (hF:CallC P f (ds1++caps.map dX) hp1 K) (he:ZBR P f) (hc:OpD fr cl (dX (.func (.func f) #[] caps.toArray))) (ha:ArgsD fr args.toList ds1)
  (hK:∀d hp2,K d hp2->∃x,d=D x/\hp2=H x) :
  SW P ops (hp1++hp) (fun x=>H x++hp) D ⟨dst,.call { callee:=.value cl,args:=args,argTypes:=ats },ty,ps,af,none⟩ fr:=⟨rfl,fun {P0 B w0 w a} hh ho KK QQ hkk=>by
 have hev:a.eval cl = .func (.func f) #[] caps.toArray:=hc.get (by simp[Op.operands,Call.operands]) ho;have h4:=he (args.map a.eval++caps.toArray) w;have hrun:(execOp a.eval ⟨dst,.call { callee:=.value cl,args:=args,argTypes:=ats },ty,ps,af,none⟩).run P w = .ok (.enter f (args.map a.eval++caps.toArray)) w:=by
  unfold execOp;simp only[resolve];simp[hev,Deferred.ofValue,invoke,h4]
 unfold Oper.wp;rw[hrun];have hgb:(hAll (Imm P0 B (hp1++hp)) w).blk=none:=rfl;have hG:Hp P0 B w0 (hp1++hAll (Imm P0 B (hp1++hp)) w::hp) w:=ZBU hgb hh (fun d u hd=>hd);have hvs:args.map a.eval++caps.toArray=(args.toList.map a.eval++caps).toArray:=by apply Array.ext';simp
 have hal:args.size=ds1.length:=by simpa using ha.1
 have hl:(args.toList.map a.eval++caps).length=(ds1++caps.map dX).length:=by simp[hal]
 have hcalls:=hF.out P0 B w0 (hAll (Imm P0 B (hp1++hp)) w::hp) (args.toList.map a.eval++caps) w hG hl fun i d hd=>by
  by_cases hi:i<ds1.length
  ·rw[List.getElem?_append_left hi] at hd;have hi':i<args.toList.length:=by simpa[hal] using hi
   have h2:=(ha.2 i _ d (List.getElem?_eq_getElem hi') hd).get (by simp only[Op.operands,Call.operands];simp) ho;have hi2:i<args.size:=by simpa using hi'
   have:(args.toList.map a.eval++caps).getD i undef=a.eval args.toList[i]:=by
    rw[List.getD_eq_getElem?_getD,List.getElem?_append_left (by simpa using hi2)];simp[hi2]
   rw[this];exact d.weak h2 fun k=>(ZAN hgb hp1 k).2
  ·rw[List.getElem?_append_right (by omega)] at hd;rw[List.getD_eq_getElem?_getD,List.getElem?_append_right (by simp;omega)];have hlen:(args.toList.map a.eval).length=ds1.length:=by simp[hal]
   rw[hlen];rw[List.getElem?_map] at hd;cases hq:caps[i-ds1.length]? with
   | none=>rw[hq] at hd;cases hd
   | some u=>rw[hq] at hd;cases hd;rfl
 rw[hvs];exact hcalls.mono fun e w' ⟨v,d',hp2,hv,hk,hh',hd'⟩=>by
  subst hv;obtain⟨x,rfl,rfl⟩:=hK d' hp2 hk;obtain⟨hh2,hok2⟩:=hh'.unghost hgb;exact hkk x v w' hh2 (fun d u hd=>hok2 d u hd) ((D x).weak hd' fun k=>(ZAN hgb (H x) k).1)⟩
end
namespace I
section
variable {P:Program} {ops:Array Oper} {hp:List HObj} {md:Region.Mode} {β:Type} {H:β->List HObj} {D:β->Dat} {dd:Nat->Dat} {m:Nat} {fr fr':List Dat} {o:Oper}
theorem ZB2 {n g:Nat} {L:Array Bool->List Dat->Option β->Prop} {Q':Exit->Act->World->Prop} {P0:Nat->Prop} {B:Nat} {w0:World}:∀(f:Nat) (listed:Array Bool) (fr:List Dat) (c:Option β) (a:Act) (w:World),Hp P0 B w0 (HH hp H c) w->Fr (Imm P0 B (HH hp H c)) w a fr ->
  (∀listed fr c a w',Hp P0 B w0 (HH hp H c) w'->Fr (Imm P0 B (HH hp H c)) w' a fr->L listed fr c->wpAnyIn Fence.wide 0 P md ops Q' g listed a w')->ZF3 P md ops hp H D dd m n L f listed fr c->wpAnyIn Fence.wide 0 P md ops Q' (f+g) listed a w
 | 0,listed,fr,c,a,w,hh,hf,hL,h=>by rw[Nat.zero_add];exact hL _ _ _ _ _ hh hf h
 | f+1,listed,fr,c,a,w,hh,hf,hL,h=>by
  rw[show f+1+g=(f+g)+1 by omega];refine⟨fun h0=>absurd h0 h.1,fun i hi=>?_⟩;obtain⟨o,ho,h1⟩:=(h.2 i hi).2;unfold wpOpIn;simp only[ho];rcases h1 with ⟨hm,hc,hw,hk⟩|⟨hm,hs,hk⟩
  ·subst hc;have hwant:Region.wanted o (yielded ops a.tmps)=true:=by simp[Region.wanted,hw.guard]
   rw[if_pos hwant];refine ZE4 (hw.out hh (hf.on _) _ _ fun x v w' hh' hrd hd=>?_);exact ZB2 f _ _ (some x) _ _ hh' (Fr.put (hf.mono fun d u hu=>hrd d u hu) hd) hL (hk x)
  ·have:=(hs c).step (Q:=Q') hh hf (K:=wpAnyIn Fence.wide 0 P md ops Q' (f+g) (listed.setIfInBounds i true)) fun a' w' e hf'=>ZB2 f _ _ c _ _ (hh.ext e) hf' hL hk;split
   ·rename_i hw;rw[if_pos hw] at this;exact ZE4 this
   ·rename_i hw;rw[if_neg hw] at this;exact⟨fun _ _=>trivial,this⟩
theorem WC.drawW {id:Nat} {l:List Oper} {Q:Z4} (n:Nat) (H:β->List HObj) (D:β->Dat) (ow:Oper) (how:l[n]?=some ow) (hm:P.follows .mixedOrders=true) (hB:Region.lexTailB .any l.toArray (n+1)=true)
  (h:WDs P l.toArray hp H (fun f=>SW P l.toArray hp H D ow f/\∀x,WL P l.toArray Q (l.drop (n+1)) (ZC f ow.dst (D x)) (H x)) (l.take n) fr):WC P Q (.region id l.toArray true) fr hp:=by
 refine WC.of fun P0 B w0 w a hh hf=>?_;simp only[Region.lexTailB,Bool.and_eq_true,decide_eq_true_eq] at hB;obtain⟨⟨⟨⟨hsel,hn⟩,hs⟩,hc⟩,hlex⟩:=hB;have hn':n+1<l.length:=by simpa using hn
 have htl:(l.take n).length=n:=by simp;omega
 have hdl:(l.drop (n+1)).length=l.toArray.size-(n+1):=by simp
 have inv0:HeadInv .any l.toArray (n+1) (Array.replicate l.toArray.size false) :=
  ⟨by simp,fun j oj _ hl=>(by rw[getD_replicate_false] at hl;cases hl),fun t _ ht=>getD_in (by simpa using ht) (getD_replicate_false _ _)⟩
 obtain⟨dd,hch⟩:=h.ch (l.take n) 0 fr;have HW:=ZFv (n:=n) (Lq:=fun f c=>WL P l.toArray Q (l.drop (n+1)) f (HH hp H c)) (md:=.any) (g:=l.toArray.size-(n+1)) (ow:=ow) (m:=n) (by simpa using how) hs hc hn (l.take n) 0 _ fr (fun j hj=>by
  have hj':j<n:=by rw[htl] at hj;exact hj
  simp[hj']) (by simpa using htl) inv0 (fun j hj=>by omega) (by rw[htl];exact hlex) hch
 have hx:Ext w { w with drawn:=w.drawn+1 }:=(Ext.refl w).drew;refine wpIn_wide.1 (wpIn_region_any (n:=0) hm ?_);have:=ZB2 (Q':=ZCs Q P0 B w0) (g:=l.toArray.size-(n+1)) _ _ _ none _ _ (hh.ext hx) (hf.ext hx) (fun listed fr' c a' w' hh' hf' hL=>by
  have:=ZEY (md:=.any) (Q':=ZCs Q P0 B w0) (l.drop (n+1)) (n+1) listed a' w' (fun j=>by simp[List.getElem?_drop]) (by rw[hdl];exact hL.1) (hL.2.on hh' hf');rwa[hdl] at this) HW
 rw[htl,show n+1+(l.toArray.size-(n+1))=l.toArray.size by omega] at this;exact this
end
end I
end
section
open Go.RowKit

section
variable {P:Program} {ops:Array Oper} {hp:List HObj} {o:Oper} {fr:List Dat} {d:Dat} {Q:Z4} {rest:List Oper}
variable {dst:Option Tmp} {ty:TypeId} {ps:String} {af:Array Edge} {g:Option (Nat × Bool)} {e e' t T:TypeId} {bytes:Nat} {z:Value} {ag:Bool} {α:Type} {R:Rel α} {xs:List α} {v:Value}
theorem ZFh {I:Nat->Prop} {w:World} (h:Own 0 e R I w v xs) {k:Nat} (hk:k<xs.length):∃(b cap:Nat) (us:List Value),v = .slice (some ⟨b,0,none⟩) xs.length cap/\us.length=xs.length/\∃(hu:k<us.length),us[k].oneCell'=true/\R (fun j=>I j/\v.ownBlock≠some j) w us[k] xs[k]/\w.cell? ⟨b,k,none⟩=some us[k]:=by
 obtain⟨us,h1,⟨h2,h3⟩,h4⟩:=h;rcases h3 with ⟨_,hz⟩|⟨g,cap,cur,hv,hB,hg,hc1,hc2,hc3,hc4⟩
 ·omega
 ·have hu:k<us.length:=by omega
  refine⟨g,cap,us,hv,h1,hu,(h4 k hu hk).1,(h4 k hu hk).2,?_⟩;rw[Nat.mul_one] at hc3 hc4;have hkc:k<cur.size:=by omega
  have:cur[k]=us[k]:=by
   have e1:us[k]?=(cur.toList.take xs.length)[k]?:=by rw[hc4]
   rw[List.getElem?_take_of_lt hk,List.getElem?_eq_getElem hu] at e1;simpa[hkc] using e1.symm
  simp[World.cell?,hg,hkc,this]
end
section
variable {P:Program} {f:FuncId} {ds:List Dat} {hp1:List HObj} {K K':Dat->List HObj->Prop}
theorem ZIG {P0:Nat->Prop} {B:Nat} {w0 w:World}:∀(junk hp:List HObj),Hp P0 B w0 (junk++hp) w->Hp P0 B w0 hp w
 | [],_,h=>h
 | _::junk,hp,h=>ZIG junk hp (Hp.drop h)
theorem ZEa (h:CallC P f ds hp1 K) (hK:∀d hp2,K d hp2->∃junk hp3,hp2.Perm (junk++hp3)/\K' d hp3):CallC P f ds hp1 K':=⟨fun P0 B w0 hp vs W hh hl hv=>by
 refine Calls.mono (h.out P0 B w0 hp vs W hh hl hv) fun e W' ⟨v,d,hp2,he,hk,hh2,hd⟩=>?_;obtain⟨junk,hp3,hperm,hk3⟩:=hK d hp2 hk;obtain⟨h3,h4⟩:=hh2.perm (hperm.append_right hp);rw[List.append_assoc] at h3 h4;refine⟨v,d,hp3,he,hk3,ZIG junk _ h3,d.weak hd fun k hk=>?_⟩;have:=(h4 k).1 hk;exact⟨this.1,fun o ho=>this.2 o (List.mem_append.2 (.inr ho))⟩⟩
theorem ZLz {res:Dat} (h:CallC P f ds [] K) (hK:∀d hp2,K d hp2->FinD hp2 d res):Fn P f ds res:=Fn.mk fun I w vs hl hv=>by
 refine Calls.mono (h.out (fun b=>I b/\b<w.heap.size) w.heap.size w [] vs w hp_enter hl fun i d hd=>d.weak (d.bound (hv i d hd)) fun k hk=>⟨.inl hk,(fun o ho=>by cases ho)⟩) fun e W' ⟨v,d,hp2,he,hk,hh2,hd⟩=>?_;rw[List.append_nil] at hh2 hd;exact⟨v,he,hh2.below,res.weak ((hK d hp2 hk).out hh2 hd) fun k hk=>hk.elim (fun h=>.inl h.1) .inr⟩
end
end
section
open Go.RowKit
def ZAV (b:Nat) (T:TypeId) (ds:List Dat):HObj where
 blk:=some b
 ok:=fun P w=>∃cs:List Value,w.heap[b]?=some (.cells cs.toArray T)/\cs.length=ds.length/\(∀c∈cs,c.oneCell'=true)/\∀(k:Nat) (c:Value) (d:Dat),cs[k]?=some c->ds[k]?=some d->d.rd P w c
 weak:=fun h q=>by obtain⟨cs,h1,h2,h3,h4⟩:=h;exact⟨cs,h1,h2,h3,fun k c d hc hd=>d.weak (h4 k c d hc hd) q⟩
 bound:=fun h=>by obtain⟨cs,h1,h2,h3,h4⟩:=h;exact⟨cs,h1,h2,h3,fun k c d hc hd=>d.bound (h4 k c d hc hd)⟩
 move:=fun h hg hP hne=>by
  obtain⟨cs,h1,h2,h3,h4⟩:=h;have hlt:b<_:=(Array.getElem?_eq_some_iff.1 h1).1;refine⟨cs,(hg.block b hlt ?_).trans h1,h2,h3,fun k c d hc hd=>d.grown (h4 k c d hc hd) hg hP⟩;rcases hne with h|h
  ·cases h
  ·exact h
def ZEN (ds:List Dat):Dat where
 rd:=fun P w v=>∃cs:List Value,v = .agg cs.toArray/\cs.length=ds.length/\(∀c∈cs,c.oneCell'=true)/\∀(k:Nat) (c:Value) (d:Dat),cs[k]?=some c->ds[k]?=some d->d.rd P w c
 weak:=fun⟨cs,h1,h2,h3,h4⟩ q=>⟨cs,h1,h2,h3,fun k c d hc hd=>d.weak (h4 k c d hc hd) q⟩
 move:=fun⟨cs,h1,h2,h3,h4⟩ q=>⟨cs,h1,h2,h3,fun k c d hc hd=>d.move (h4 k c d hc hd) q⟩
 bound:=fun⟨cs,h1,h2,h3,h4⟩=>⟨cs,h1,h2,h3,fun k c d hc hd=>d.bound (h4 k c d hc hd)⟩
theorem ZAD {ds:List Dat} {n:Nat} (hn:0<n) (hl:ds.length=n):(ZEN ds).Shape n true:=fun _ _ _ h=>by
 obtain⟨cs,rfl,h2,h3,_⟩:=h;exact⟨cs,by omega,by omega,h3,rfl,rfl⟩
structure StrT (P:Program) (T:TypeId) (n:Nat):Prop where
 fld:∀b off i w,i<n->(Instr.fieldAt T (.pointer (some ⟨b,off,none⟩)) i).run P w = .ok (.pointer (some ⟨b,off+i,none⟩)) w
section
variable {P:Program} {ops:Array Oper} {hp:List HObj} {fr:List Dat} {d:Dat} {Q:Z4} {rest:List Oper}
variable {dst:Option Tmp} {ty:TypeId} {ps:String} {af:Array Edge} {g:Option (Nat × Bool)} {T T1 T2:TypeId} {b off k n:Nat} {ds ds':List Dat}
theorem ZC0 {zs:List Value} (hz:TyZ P T (.agg zs.toArray)) (hn:0<zs.length) (h1:∀c∈zs,c.oneCell'=true) (h:∀b,WL P ops Q rest (ZC fr dst (dX (.pointer (some ⟨b,0,none⟩)))) (ZAV b T (zs.map dX)::hp)) :
  WL P ops Q (⟨dst,.alloc T,ty,ps,af,none⟩::rest) fr hp :=
 ZWF (n:=zs.length) (agg:=true) hz (fun _ _ _ q=>by cases (q:_=_);exact⟨zs,rfl,hn,h1,rfl,rfl⟩) fun b=>WL.of fun P0 B w0 w a hh hf=>by
  obtain⟨cs,u,c1,c2,c0,c3,c4,c5⟩:=hh.ok (Zm b T zs.length true (dX (.agg zs.toArray))) (by simp);have hu:u = .agg zs.toArray:=c5;simp only[if_true] at c4;rw[hu] at c4;have hcs:zs=cs:=by injection c4 with c4;exact List.toArray_inj c4
  subst hcs;have hgr:w.grownBy w (Zm b T zs.length true (dX (.agg zs.toArray))).blk:=⟨rfl,rfl,rfl,Nat.le_refl _,fun _ _ _=>rfl⟩;have hok:(ZAV b T (zs.map dX)).ok (fun k=>Imm P0 B (Zm b T zs.length true (dX (.agg zs.toArray))::hp) k/\k<w.heap.size) w :=
   ⟨zs,c1,by simp,h1,fun k c d hc hd=>by
    rw[List.getElem?_map,hc] at hd;cases hd;rfl⟩
  exact(h b).on (hh.write hgr (.inl rfl) hok) (hf.mono fun _ _ hd=>Zd (o':=ZAV b T (zs.map dX)) hgr (.inl rfl) hd)
theorem ZAl {x:Operand} {i:Nat} (S:StrT P T n) (hx:OpD fr x (dX (.pointer (some ⟨b,off,none⟩)))) (hi:i<n) :
  SY P ops hp ⟨dst,.fieldAddr T x i,ty,ps,af,g⟩ fr (dX (.pointer (some ⟨b,off+i,none⟩))):=ZWK fun {I w a} ho=>by
 have h1:a.eval x=_:=hx.get (by simp[Op.operands]) ho;refine⟨_,?_,rfl⟩;unfold execOp;simp only[h1,Sem.run_bind,S.fld b off i w hi,Result.andThen_ok,Sem.run_pure]
theorem ZSQ {I:Nat->Prop} {w:World} (h:(ZAV b T2 ds).ok I w) (hk:ds[k]?=some d):∃c,w.cell? ⟨b,k,none⟩=some c/\c.oneCell'=true/\d.rd I w c:=by
 obtain⟨cs,c1,c2,c3,c4⟩:=h;have hlt:=(List.getElem?_eq_some_iff.1 hk).1;have hl:k<cs.length:=by omega
 exact⟨cs[k],by simp[World.cell?,c1,hl],c3 _ (List.getElem_mem hl),c4 k _ d (List.getElem?_eq_getElem hl) hk⟩
theorem ZAY {x:Operand} (T':TyI P T1 1 false) (hx:OpD fr x (dX (.pointer (some ⟨b,k,none⟩)))) (hm:ZAV b T2 ds∈hp) (hk:ds[k]?=some d) :
  SY P ops hp ⟨dst,.load T1 x,ty,ps,af,g⟩ fr d:=ZAG fun {P0 B w0 w a} hh ho=>by
 have h1:a.eval x = .pointer (some ⟨b,k,none⟩):=hx.get (by simp[Op.operands]) ho;obtain⟨c,q1,q2,q3⟩:=ZSQ (hh.ok _ hm) hk;have hc:Cells (fun _=>True) w b k 1 false c:=by
  refine⟨trivial,[c],rfl,by decide,by simp[q2],fun i c' hc=>?_,rfl⟩;have hi:i=0:=by
   have:=(List.getElem?_eq_some_iff.1 hc).1;simp at this;exact this
  subst hi;cases hc;exact q1
 refine⟨c,w,?_,ZWS _,q3⟩;unfold execOp;simp only[h1,Sem.run_bind,ZA8 T' hc,Result.andThen_ok,Sem.run_pure]
theorem ZDN {x:Operand} (T':TyI P T1 n true) (hx:OpD fr x (dX (.pointer (some ⟨b,0,none⟩)))) (hm:ZAV b T2 ds∈hp) (hn:0<n) (hl:ds.length=n) :
  SY P ops hp ⟨dst,.load T1 x,ty,ps,af,g⟩ fr (ZEN ds):=ZAG fun {P0 B w0 w a} hh ho=>by
 have h1:a.eval x = .pointer (some ⟨b,0,none⟩):=hx.get (by simp[Op.operands]) ho;obtain⟨cs,c1,c2,c3,c4⟩:=hh.ok _ hm;have hc:Cells (fun _=>True) w b 0 n true (.agg cs.toArray):=by
  refine⟨trivial,cs,by omega,hn,c3,fun j c hc=>?_,rfl⟩;simp[World.cell?,c1,hc]
 refine⟨_,w,?_,ZWS _,cs,rfl,c2,c3,c4⟩;unfold execOp;simp only[h1,Sem.run_bind,ZA8 T' hc,Result.andThen_ok,Sem.run_pure]
theorem WL.storeS {t:Nat} {x:Operand} (T':TyI P T1 1 false) (hp0:OpD fr (.tmp t) (dX (.pointer (some ⟨b,k,none⟩)))) (hx:OpD fr x d) (hs:d.Shape 1 false) (hk:k<ds.length)
  (h:WL P ops Q rest (ZC fr dst (dX undef)) (ZAV b T2 (ds.set k d)::hp)) :
  WL P ops Q (⟨dst,.store T1 (.tmp t) x,ty,ps,af,none⟩::rest) fr (ZAV b T2 ds::hp):=by
 refine WL.of fun P0 B w0 w a hh hf=>?_;obtain⟨cs,c1,c2,c3,c4⟩:=hh.ok (ZAV b T2 ds) (by simp);have h1:a.eval (.tmp t)=_:=hp0.ev hf;have hd:d.rd (Imm P0 B (ZAV b T2 ds::hp)) w (a.eval x):=hx.ev hf;obtain⟨us,u1,u0,u2,u3,u4⟩:=hs _ _ _ hd;obtain⟨u,rfl⟩:∃u,us=[u]:=List.length_eq_one_iff.1 u1;have hu:a.eval x=u:=by
  simp only[Bool.false_eq_true,if_false] at u4;exact(List.cons.inj u4).1.symm
 have hone:u.oneCell'=true:=u2 u (by simp);have hdu:d.rd (Imm P0 B (ZAV b T2 ds::hp)) w u:=by rw[hu] at hd;exact hd
 have hkc:k<cs.length:=by omega
 have hset:=setCell_eq_setRow w b k cs.toArray T2 (0,0) u c1;have hc:w.cell? ⟨b,k,none⟩=some cs[k]:=by simp[World.cell?,c1,hkc]
 have hfz:w.frozen? ⟨b,k,none⟩=false:=by simp[World.frozen?,c1]
 have hst:(store ((⟨b,k,none⟩:Addr).add 0) u).run P w = .ok () (w.setCell ⟨b,k,none⟩ u):=by
  rw[show((⟨b,k,none⟩:Addr).add 0)=⟨b,k,none⟩ from rfl,run_store P w _ u _ hone,hc];simp[hfz]
 have hsz:(sizeOf T1).run P w = .ok 1 w:=by
  have h5:=T'.size;cases hq:P.info? T1 with
  | none=>rw[hq] at h5;cases h5
  | some i =>
   rw[hq] at h5;have:i.size=1:=by simpa using h5
   rw[<- this];rw[run_sizeOf w hq];simp[Program.cellsOf,hq]
 have hw:w.setCell ⟨b,k,none⟩ u=w.setRow b (cs.set k u).toArray:=by rw[hset];simp
 have hrun:(execOp a.eval ⟨dst,.store T1 (.tmp t) x,ty,ps,af,none⟩).run P w = .ok .skip (w.setRow b (cs.set k u).toArray):=by
  rw[<- hw];unfold execOp;simp only[h1,hu,Instr.storeAt,Instr.sureAddr,storeVar,Sem.run_bind,hsz,Result.andThen_ok,Sem.run_pure];simp[ZC6 hone,storeCells,hst]
 refine wpList_plain rfl fun K hK=>?_;unfold Oper.wp;rw[hrun];have hgr:w.grownBy (w.setRow b (cs.set k u).toArray) (ZAV b T2 ds).blk:=ZAM;have hok:(ZAV b T2 (ds.set k d)).ok (fun j=>Imm P0 B (ZAV b T2 ds::hp) j/\j<w.heap.size) (w.setRow b (cs.set k u).toArray):=by
  refine⟨cs.set k u,setRow_heap w b _ _ _ _ c1,by simp[c2],fun c hc=>?_,fun j c e hc he=>?_⟩
  ·rcases List.mem_or_eq_of_mem_set hc with hc|rfl
   ·exact c3 c hc
   ·exact hone
  ·rw[List.getElem?_set] at hc he;by_cases hjk:k=j
   ·rw[if_pos hjk,if_pos (by omega)] at hc he;cases hc;cases he;exact d.grown (d.bound hdu) hgr fun j q hj=>hj.1.2 (ZAV b T2 ds) (by simp) q
   ·rw[if_neg hjk] at hc he;exact e.grown (e.bound (c4 j c e hc he)) hgr fun j q hj=>hj.1.2 (ZAV b T2 ds) (by simp) q
 exact hK _ _ (h.on (hh.write hgr (.inl rfl) hok) (ZWN (hf.mono fun _ _ hd=>Zd (o':=ZAV b T2 (ds.set k d)) hgr (.inl rfl) hd) (d:=dX undef) rfl))
theorem ZBs {t:Nat} {x:Operand} (T':TyI P T1 n true) (hp0:OpD fr (.tmp t) (dX (.pointer (some ⟨b,0,none⟩)))) (hx:OpD fr x (ZEN ds')) (hl:ds.length=n) (hl':ds'.length=n)
  (h:WL P ops Q rest (ZC fr dst (dX undef)) (ZAV b T2 ds'::hp)) :
  WL P ops Q (⟨dst,.store T1 (.tmp t) x,ty,ps,af,none⟩::rest) fr (ZAV b T2 ds::hp):=by
 refine WL.of fun P0 B w0 w a hh hf=>?_;obtain⟨cs,c1,c2,c3,c4⟩:=hh.ok (ZAV b T2 ds) (by simp);have h1:a.eval (.tmp t)=_:=hp0.ev hf;obtain⟨us,u1,u2,u3,u4⟩:=(hx.ev hf:(ZEN ds').rd (Imm P0 B (ZAV b T2 ds::hp)) w (a.eval x));have hr:=ZDG (u:=a.eval x) (cs:=cs) (cs':=us) T'.size c1 (by omega) (by omega) u3 (by rw[u1];rfl);have hrun:(execOp a.eval ⟨dst,.store T1 (.tmp t) x,ty,ps,af,none⟩).run P w = .ok .skip (w.setRow b us.toArray):=by
  unfold execOp;simp only[h1,Sem.run_bind,hr,Result.andThen_ok,Sem.run_pure]
 refine wpList_plain rfl fun K hK=>?_;unfold Oper.wp;rw[hrun];have hgr:w.grownBy (w.setRow b us.toArray) (ZAV b T2 ds).blk:=ZAM;have hok:(ZAV b T2 ds').ok (fun j=>Imm P0 B (ZAV b T2 ds::hp) j/\j<w.heap.size) (w.setRow b us.toArray) :=
  ⟨us,setRow_heap w b _ _ _ _ c1,u2,u3,fun j c e hc he=>e.grown (e.bound (u4 j c e hc he)) hgr fun j q hj=>hj.1.2 (ZAV b T2 ds) (by simp) q⟩
 exact hK _ _ (h.on (hh.write hgr (.inl rfl) hok) (ZWN (hf.mono fun _ _ hd=>Zd (o':=ZAV b T2 ds') hgr (.inl rfl) hd) (d:=dX undef) rfl))
theorem ZM3 {c:Code} {t:Nat} (hp0:fr[t]?=some (dX (.pointer (some ⟨b,0,none⟩)))) (hn:0<n) (hl:ds.length=n) (h:WC P Q c (fr.set t (dP n true (ZEN ds))) hp):WC P Q c fr (ZAV b T ds::hp):=by
 refine WC.of fun P0 B w0 w a hh hf=>?_;obtain⟨cs,c1,c2,c3,c4⟩:=hh.ok (ZAV b T ds) (by simp);have hown:=hh.own (ZAV b T ds) (by simp) b rfl;refine h.on hh.drop ⟨hf.defers,by rw[hf.size,List.length_set],fun t' d' hd'=>?_⟩;by_cases htt:t=t'
 ·subst htt;rw[List.getElem?_set] at hd';simp only[if_true] at hd';split at hd'
  ·cases hd';have hv:a.tmps.getD t undef = .pointer (some ⟨b,0,none⟩):=hf.rd t _ hp0;rw[hv];refine⟨b,0,.agg cs.toArray,rfl,⟨⟨.inr hown.1,fun o' ho' hk=>(List.pairwise_cons.1 hh.apart).1 o' ho' b rfl hk⟩,cs,by omega,hn,c3,fun j c hc=>?_,rfl⟩,cs,rfl,c2,c3,fun k c d hc hd=>d.weak (c4 k c d hc hd) ZWZ⟩;simp[World.cell?,c1,hc]
  ·cases hd'
 ·rw[List.getElem?_set_ne htt] at hd';exact d'.weak (hf.rd t' d' hd') ZWZ
end
def R3 {α β γ:Type} (R:Rel α) (S:Rel β) (T:Rel γ):Rel (α × β × γ):=fun P w v x=>∃u u' u'',v = .agg #[u,u',u'']/\(u.oneCell'=true/\u'.oneCell'=true/\u''.oneCell'=true)/\R P w u x.1/\S P w u' x.2.1/\T P w u'' x.2.2
instance {α β γ:Type} (R:Rel α) (S:Rel β) (T:Rel γ) [Good R] [Good S] [Good T]:Good (R3 R S T) where
 weak:=fun⟨u,u',u'',h1,h0,h2,h3,h4⟩ q=>⟨u,u',u'',h1,h0,Good.weak h2 q,Good.weak h3 q,Good.weak h4 q⟩
 move:=fun⟨u,u',u'',h1,h0,h2,h3,h4⟩ q=>⟨u,u',u'',h1,h0,Good.move h2 q,Good.move h3 q,Good.move h4 q⟩
 bound:=fun⟨u,u',u'',h1,h0,h2,h3,h4⟩=>⟨u,u',u'',h1,h0,Good.bound h2,Good.bound h3,Good.bound h4⟩
section
variable {α β γ:Type} {R:Rel α} {S:Rel β} {T:Rel γ} [Good R] [Good S] [Good T] {x:α} {y:β} {z:γ}
theorem ZCB {p:α × β × γ}:(dS (R3 R S T) p).Shape 3 true:=fun _ _ _ h=>by
 obtain⟨u,u',u'',rfl,⟨h0,h1,h2⟩,_⟩:=h;exact⟨[u,u',u''],rfl,by omega,fun c hc=>by
  simp only[List.mem_cons,List.not_mem_nil,or_false] at hc;rcases hc with rfl|rfl|rfl <;> assumption,rfl,rfl⟩
theorem ZUw:(ZEN [dS R x,dS S y,dS T z]).le (dS (R3 R S T) (x,y,z)):=fun _ _ _ h=>by
 obtain⟨cs,rfl,h2,h3,h4⟩:=h
 match cs,h2 with
 | [u,u',u''],_=>exact⟨u,u',u'',rfl,⟨h3 u (by simp),h3 u' (by simp),h3 u'' (by simp)⟩,h4 0 u _ rfl rfl,h4 1 u' _ rfl rfl,h4 2 u'' _ rfl rfl⟩
theorem ZFx {p:α × β × γ}:(dS (R3 R S T) p).le (ZEN [dS R p.1,dS S p.2.1,dS T p.2.2]):=fun _ _ _ h=>by
 obtain⟨u,u',u'',rfl,⟨h0,h1,h2⟩,h3,h4,h5⟩:=h;refine⟨[u,u',u''],rfl,rfl,fun c hc=>?_,fun k c d hc hd=>?_⟩
 ·simp only[List.mem_cons,List.not_mem_nil,or_false] at hc;rcases hc with rfl|rfl|rfl <;> assumption
 ·match k,hc,hd with
  | 0,hc,hd=>cases hc;cases hd;exact h3
  | 1,hc,hd=>cases hc;cases hd;exact h4
  | 2,hc,hd=>cases hc;cases hd;exact h5
end
end
section
open Go.RowKit

theorem elV:ElT Tryz.prog 22 77 2 (.agg #[.int .i64 0,.int .i64 0]) 16 true:=⟨Tryz.underlying22,by kernel_rfl,Tryz.isAgg77,rfl⟩
theorem ZB8:ElT Tryz.prog 27 22 1 (.slice none 0 0) 24 false:=⟨Tryz.underlying27,by kernel_rfl,Tryz.isAgg22,rfl⟩
theorem elI:ElT Tryz.prog 23 3 1 (.int .i64 0) 8 false:=⟨Tryz.underlying23,by kernel_rfl,Tryz.isAgg3,rfl⟩
theorem tyV:TyI Tryz.prog 77 2 true:=⟨by kernel_rfl,Tryz.isAgg77⟩
theorem ZSY:TyI Tryz.prog 22 1 false:=⟨by kernel_rfl,Tryz.isAgg22⟩
theorem tyI:TyI Tryz.prog 3 1 false:=⟨by kernel_rfl,Tryz.isAgg3⟩
theorem tzV:TyZ Tryz.prog 77 (.agg #[.int .i64 0,.int .i64 0]):=⟨by kernel_rfl⟩
theorem vxT:VxT Tryz.prog 77:=by
 constructor
 ·intro b off w;go_simp
 ·intro b off w;go_simp
 ·intro x y p q p' q' w;go_simp;by_cases h:p=p' <;> by_cases h':q=q' <;> simp[h,h']
 ·intro x y p q p' q' w;go_simp;by_cases h:p=p' <;> by_cases h':q=q' <;> simp[h,h']
 ·intro p q w;go_simp
 ·intro p w;go_simp
 ·intro q w;go_simp
theorem nqBB:∀(x y:Operand) (p q:Bool) w,(do eqGuard .neq 4 x y (.bool p) (.bool q);Go.binOp .neq 4 (.bool p) (.bool q)).run Tryz.prog w = .ok (.bool (p != q)) w:=by
 intro x y p q w;cases p <;> cases q <;> go_simp
theorem ZPL:∀(x y:Operand) ad m c w,(do eqGuard .eql 22 x y (.slice ad m c) (.slice none 0 0);Go.binOp .eql 22 (.slice ad m c) (.slice none 0 0)).run Tryz.prog w = .ok (.bool ad.isNone) w:=by
 intro x y ad m c w;cases ad <;> (go_simp;try (unfold Go.binOp;simp only;unfold Op.equal Op.maxDepth Op.equalIn;simp[run_underlying Tryz.underlying22]))

end
section
open Go.RowKit
def R1 {α:Type} (R:Rel α):Rel α:=fun P w v x=>∃u,v = .agg #[u]/\u.oneCell'=true/\R P w u x
instance {α:Type} (R:Rel α) [Good R]:Good (R1 R) where
 weak:=fun⟨u,h1,h0,h2⟩ q=>⟨u,h1,h0,Good.weak h2 q⟩
 move:=fun⟨u,h1,h0,h2⟩ q=>⟨u,h1,h0,Good.move h2 q⟩
 bound:=fun⟨u,h1,h0,h2⟩=>⟨u,h1,h0,Good.bound h2⟩
abbrev Cpx:Rel (List (List (Int × Int))):=R1 Zh
theorem ZAL {α:Type} {R:Rel α} [Good R] {x:α}:(dS (R1 R) x).Shape 1 true:=fun _ _ _ h=>by
 obtain⟨u,rfl,h0,_⟩:=h;exact⟨[u],rfl,Nat.one_pos,fun c hc=>by rw[List.mem_singleton.1 hc];exact h0,rfl,rfl⟩
theorem ZJS {α:Type} {R:Rel α} [Good R] {xs:List α}:∀(I:Nat->Prop) (w:World) (v:Value),(dS (R1 (Arr R)) xs).rd I w v->xs.length≤maxLen:=fun _ _ _ h=>by obtain⟨_,_,_,h⟩:=h;exact ZDu _ _ _ h
structure CpxT (P:Program) (T:TypeId):Prop where
 fld:∀b off w,(Instr.fieldAt T (.pointer (some ⟨b,off,none⟩)) 0).run P w = .ok (.pointer (some ⟨b,off,none⟩)) w
 mkc:∀a n c w,(Instr.build T #[(0,.slice a n c)]).run P w = .ok (.agg #[.slice a n c]) w
 mkc0:∀w,(Instr.build T #[]).run P w = .ok (.agg #[.slice none 0 0]) w
theorem ZNz:CpxT Tryz.prog 29:=by
 constructor
 ·intro b off w;go_simp
 ·intro a n c w;go_simp
 ·intro w;go_simp
theorem tyC:TyI Tryz.prog 29 1 true:=⟨by kernel_rfl,Tryz.isAgg29⟩
theorem ZQx:TyI Tryz.prog 27 1 false:=⟨by kernel_rfl,Tryz.isAgg27⟩
section
variable {P:Program} {ops:Array Oper} {hp:List HObj} {fr:List Dat} {d:Dat} {Q:Z4} {rest:List Oper}
variable {dst:Option Tmp} {ty:TypeId} {ps:String} {af:Array Edge} {g:Option (Nat × Bool)} {T:TypeId} (V:CpxT P T)
include V
theorem ZDM {α:Type} {R:Rel α} {_gR:Good R} {x:Operand} {xs:α} (hx:OpD fr x (dP 1 true (dS (R1 R) xs))):SY P ops hp ⟨dst,.fieldAddr T x 0,ty,ps,af,g⟩ fr (dP 1 false (dS R xs)):=ZWK fun {I w a} ho=>by
 obtain⟨b,off,u,h1,⟨hb,cs,k1,k0,k2,k3,k4⟩,u0,hu,h0,h3⟩:=hx.get (by simp[Op.operands]) ho;simp only[if_true] at k4;rw[k4] at hu;have hcs:cs=[u0]:=by injection hu with hu;exact List.toArray_inj hu
 subst hcs;refine⟨_,?_,b,off,u0,rfl,⟨hb,[u0],rfl,Nat.one_pos,by simp[h0],fun j c hc=>k3 j c hc,rfl⟩,h3⟩;unfold execOp;simp only[h1,Sem.run_bind,V.fld,Result.andThen_ok,Sem.run_pure]
theorem ZTN {x:Operand} {b:Nat} (hx:OpD fr x (dX (.pointer (some ⟨b,0,none⟩)))):SY P ops hp ⟨dst,.fieldAddr T x 0,ty,ps,af,g⟩ fr (dX (.pointer (some ⟨b,0,none⟩))):=ZWK fun {I w a} ho=>by
 have h1:a.eval x = .pointer (some ⟨b,0,none⟩):=hx.get (by simp[Op.operands]) ho;refine⟨_,?_,rfl⟩;unfold execOp;simp only[h1,Sem.run_bind,V.fld,Result.andThen_ok,Sem.run_pure]
theorem ZSk {α:Type} {R:Rel α} {_gR:Good R} {x:Operand} {xs:List α} (hx:OpD fr x (dS (Arr R) xs)):SY P ops hp ⟨dst,.build T #[(0,x)],ty,ps,af,g⟩ fr (dS (R1 (Arr R)) xs):=ZWK fun {I w a} ho=>by
 have h1:Arr R I w (a.eval x) xs:=hx.get (by simp[Op.operands]) ho;have h2:=h1;obtain⟨ad,c,hv,_⟩:=h2;rw[hv] at h1;refine⟨.agg #[.slice ad xs.length c],?_,_,rfl,rfl,h1⟩;unfold execOp;simp only[List.map_toArray,List.map_cons,List.map_nil,hv,Sem.run_bind,V.mkc,Result.andThen_ok,Sem.run_pure]
end
theorem ZD0 {P:Program} {T:TypeId} {n:Nat} {agg:Bool} (T':TyI P T n agg) {I:Nat->Prop} {w:World} {b off:Nat} {u:Value} (h:Cells I w b off n agg u):(loadVar T ⟨b,off,none⟩).run P w = .ok u w:=by
 have h1:=ZA8 T' h;simpa[Instr.loadAt,Instr.sureAddr] using h1
theorem ZDb {P:Program} {fn:Func} {t:Tmp} {T:TypeId} {n:Nat} {agg:Bool} (T':TyI P T n agg) (hr:fn.results=#[.cell t T]) {I:Nat->Prop} {w:World} {tmps:Array Value} {b off:Nat} {u:Value} (hp:tmps.getD t undef = .pointer (some ⟨b,off,none⟩)) (h:Cells I w b off n agg u):(results fn tmps).run P w = .ok u w:=by
 have h1:=ZD0 T' h;have hp':tmps[t]?.getD undef = .pointer (some ⟨b,off,none⟩):=by simpa using hp
 simp[results,hr,hp',asAddr,h1]
theorem ZHi {P:Program} {fn:Func} {t t2:Tmp} {T:TypeId} {n:Nat} {agg:Bool} (T':TyI P T n agg) (hr:fn.results=#[.cell t T,.tmp t2]) {I:Nat->Prop} {w:World} {tmps:Array Value} {b off:Nat} {u:Value} (hp:tmps.getD t undef = .pointer (some ⟨b,off,none⟩)) (h:Cells I w b off n agg u):(results fn tmps).run P w = .ok (.tuple #[u,tmps.getD t2 undef]) w:=by
 have h1:=ZD0 T' h;have hp':tmps[t]?.getD undef = .pointer (some ⟨b,off,none⟩):=by simpa using hp
 simp[results,hr,hp',asAddr,h1]
section
variable {P:Program} {hp:List HObj} {d:Dat}
def finC1 (t:Nat) (n:Nat) (agg:Bool) (res:Dat):Z4:=fun e fr hp=>(match e with|.normal|.ret=>True|_=>False)/\∃d,fr[t]?=some (dP n agg d)/\FinD hp d res
def ZU8 (t u:Nat) (n:Nat) (agg:Bool) (r s:Dat):Z4:=fun e fr hp=>(match e with|.normal|.ret=>True|_=>False)/\(∃d,fr[t]?=some (dP n agg d)/\FinD hp d r)/\∃d,fr[u]?=some d/\FinD hp d s
theorem ZHo {f:FuncId} {fn:Func} {c:Code} {args:List Dat} {res:Dat} {t:Tmp} {T:TypeId} {n:Nat} {agg:Bool} (T':TyI P T n agg) (hf:P.funcs[f]?=some fn) (hb:fn.body=some c) (hr:fn.results=#[.cell t T])
  (h:WC P (finC1 t n agg res) c (args++List.replicate (fn.ntmps-args.length) (dX undef)) []):Fn P f args res :=
 ZBr hf hb (fun e fr hp q=>by
  obtain⟨he,d,hd,hfin⟩:=q;refine⟨by cases e <;> simp_all,fun {P0 B w0 w a} hh hf'=>?_⟩;obtain⟨b,off,u,h1,h2,h3⟩:=hf'.rd t _ hd;exact⟨u,ZDb T' hr h1 h2,hfin.out hh h3⟩) h
theorem ZCv {f:FuncId} {fn:Func} {c:Code} {args:List Dat} {r s:Dat} {t t2:Tmp} {T:TypeId} {n:Nat} {agg:Bool} (T':TyI P T n agg) (hf:P.funcs[f]?=some fn) (hb:fn.body=some c) (hr:fn.results=#[.cell t T,.tmp t2])
  (h:WC P (ZU8 t t2 n agg r s) c (args++List.replicate (fn.ntmps-args.length) (dX undef)) []):Fn P f args (dT [r,s]) :=
 ZBr hf hb (fun e fr hp q=>by
  obtain⟨he,⟨d,hd,hfin⟩,d',hd',hfin'⟩:=q;refine⟨by cases e <;> simp_all,fun {P0 B w0 w a} hh hf'=>?_⟩;obtain⟨b,off,u,h1,h2,h3⟩:=hf'.rd t _ hd;refine⟨_,ZHi T' hr h1 h2,[u,a.tmps.getD t2 undef],rfl,rfl,fun i e x he hx=>?_⟩
  match i,he,hx with
  | 0,he,hx=>cases he;cases hx;exact hfin.out hh h3
  | 1,he,hx=>cases he;cases hx;exact hfin'.out hh (hf'.rd t2 d' hd')) h
end
end
section
open Go.RowKit
def R2 {α β:Type} (R:Rel α) (S:Rel β):Rel (α × β):=fun P w v x=>∃u u',v = .agg #[u,u']/\u.oneCell'=true/\u'.oneCell'=true/\R P w u x.1/\S P w u' x.2
instance {α β:Type} (R:Rel α) (S:Rel β) [Good R] [Good S]:Good (R2 R S) where
 weak:=fun⟨u,u',h1,h0,h0',h2,h3⟩ q=>⟨u,u',h1,h0,h0',Good.weak h2 q,Good.weak h3 q⟩
 move:=fun⟨u,u',h1,h0,h0',h2,h3⟩ q=>⟨u,u',h1,h0,h0',Good.move h2 q,Good.move h3 q⟩
 bound:=fun⟨u,u',h1,h0,h0',h2,h3⟩=>⟨u,u',h1,h0,h0',Good.bound h2,Good.bound h3⟩
theorem ZA9 {α β:Type} {R:Rel α} {S:Rel β} [Good R] [Good S] {x:α × β}:(dS (R2 R S) x).Shape 2 true:=fun _ _ _ h=>by
 obtain⟨u,u',rfl,h0,h0',_,_⟩:=h;exact⟨[u,u'],rfl,by omega,fun c hc=>by
  simp only[List.mem_cons,List.not_mem_nil,or_false] at hc;rcases hc with rfl|rfl <;> assumption,rfl,rfl⟩
structure ColT (P:Program) (T:TypeId):Prop where
 fld0:∀b off w,(Instr.fieldAt T (.pointer (some ⟨b,off,none⟩)) 0).run P w = .ok (.pointer (some ⟨b,off+0,none⟩)) w
 fld1:∀b off w,(Instr.fieldAt T (.pointer (some ⟨b,off,none⟩)) 1).run P w = .ok (.pointer (some ⟨b,off+1,none⟩)) w
 mkp:∀a n c a' n' c' w,(Instr.build T #[(0,.slice a n c),(1,.slice a' n' c')]).run P w = .ok (.agg #[.slice a n c,.slice a' n' c']) w
section
variable {P:Program} {ops:Array Oper} {hp:List HObj} {fr:List Dat} {d:Dat} {Q:Z4} {rest:List Oper}
variable {dst:Option Tmp} {ty:TypeId} {ps:String} {af:Array Edge} {g:Option (Nat × Bool)} {T:TypeId} (V:ColT P T)
include V
theorem ZAt {α β:Type} {R:Rel α} {S:Rel β} {_gR:Good R} {_gS:Good S} {x:Operand} {p:α × β} (hx:OpD fr x (dP 2 true (dS (R2 R S) p))):SY P ops hp ⟨dst,.fieldAddr T x 0,ty,ps,af,g⟩ fr (dP 1 false (dS R p.1)):=ZWK fun {I w a} ho=>by
 obtain⟨b,off,u,h1,⟨hb,cs,k1,k0,k2,k3,k4⟩,v0,v1,hu,q0,q1,q2,q3⟩:=hx.get (by simp[Op.operands]) ho;simp only[if_true] at k4;rw[k4] at hu;have hcs:cs=[v0,v1]:=by injection hu with hu;exact List.toArray_inj hu
 subst hcs;refine⟨_,?_,b,off+0,v0,rfl,⟨hb,[v0],rfl,Nat.one_pos,by simp[q0],fun j c hc=>?_,rfl⟩,q2⟩
 ·unfold execOp;simp only[h1,Sem.run_bind,V.fld0,Result.andThen_ok,Sem.run_pure]
 ·have hj:j=0:=by have:=(List.getElem?_eq_some_iff.1 hc).1;simpa using this
  subst hj;cases hc;exact k3 0 _ rfl
theorem ZBG {α β:Type} {R:Rel α} {S:Rel β} {_gR:Good R} {_gS:Good S} {x:Operand} {p:α × β} (hx:OpD fr x (dP 2 true (dS (R2 R S) p))):SY P ops hp ⟨dst,.fieldAddr T x 1,ty,ps,af,g⟩ fr (dP 1 false (dS S p.2)):=ZWK fun {I w a} ho=>by
 obtain⟨b,off,u,h1,⟨hb,cs,k1,k0,k2,k3,k4⟩,v0,v1,hu,q0,q1,q2,q3⟩:=hx.get (by simp[Op.operands]) ho;simp only[if_true] at k4;rw[k4] at hu;have hcs:cs=[v0,v1]:=by injection hu with hu;exact List.toArray_inj hu
 subst hcs;refine⟨_,?_,b,off+1,v1,rfl,⟨hb,[v1],rfl,Nat.one_pos,by simp[q1],fun j c hc=>?_,rfl⟩,q3⟩
 ·unfold execOp;simp only[h1,Sem.run_bind,V.fld1,Result.andThen_ok,Sem.run_pure]
 ·have hj:j=0:=by have:=(List.getElem?_eq_some_iff.1 hc).1;simpa using this
  subst hj;cases hc;exact k3 1 _ rfl
end
end
section
open Go.RowKit
section
variable {P:Program} {ops:Array Oper} {hp:List HObj} {fr:List Dat} {d e:Dat} {Q:Z4} {rest:List Oper}
variable {dst:Option Tmp} {ty:TypeId} {ps:String} {af:Array Edge} {g:Option (Nat × Bool)} {T T1 T2:TypeId} {b off k n:Nat} {ds ds':List Dat}
theorem ZW {x:Operand} {i:Nat} (S:StrT P T n) (hx:OpD fr x (dP n true d)) (hle:d.le (ZEN ds)) (hl:ds.length=n) (hi:ds[i]?=some e) :
  SY P ops hp ⟨dst,.fieldAddr T x i,ty,ps,af,g⟩ fr (dP 1 false e):=ZWK fun {I w a} ho=>by
 obtain⟨b,off,u,h1,⟨hb,cs,k1,k0,k2,k3,k4⟩,hu⟩:=hx.get (by simp[Op.operands]) ho;obtain⟨us,q1,q2,q3,q4⟩:=hle _ _ _ hu;simp only[if_true] at k4;rw[k4] at q1;have hcs:cs=us:=by injection q1 with q1;exact List.toArray_inj q1
 subst hcs;have hil:i<ds.length:=(List.getElem?_eq_some_iff.1 hi).1;have hic:i<cs.length:=by omega
 refine⟨_,?_,b,off+i,cs[i],rfl,⟨hb,[cs[i]],rfl,Nat.one_pos,by simpa using k2 _ (List.getElem_mem hic),fun j c hc=>?_,rfl⟩,q4 i _ e (List.getElem?_eq_getElem hic) hi⟩
 ·unfold execOp;simp only[h1,Sem.run_bind,S.fld b off i w (by omega),Result.andThen_ok,Sem.run_pure]
 ·have hj:j=0:=by have:=(List.getElem?_eq_some_iff.1 hc).1;simpa using this
  subst hj;cases hc;exact k3 i _ (List.getElem?_eq_getElem hic)
theorem ZL8 {α:Type} {R:Rel α} {_gR:Good R} {v:Value} {xs:List α} {eT:TypeId} (hk:ds[k]?=some (dX v)) (h:WL P ops Q rest fr (ZAV b T (ds.set k (dS (Arr R) xs))::hp)):WL P ops Q rest fr (ZAV b T ds::Zk v eT R xs::hp):=WL.of fun P0 B w0 w a hh hf=>by
 obtain⟨hh1,hI1⟩:=hh.perm (List.Perm.swap _ _ _);have hA:Arr R (Imm P0 B (ZAV b T ds::hp)) w v xs:=ZD5 hh1;have hh2:=hh1.drop;have hgr:w.grownBy w (ZAV b T ds).blk:=⟨rfl,rfl,rfl,Nat.le_refl _,fun _ _ _=>rfl⟩;obtain⟨cs,c1,c2,c3,c4⟩:=hh2.ok (ZAV b T ds) (by simp);have hkl:=(List.getElem?_eq_some_iff.1 hk).1;have hkc:k<cs.length:=by omega
 have hv:cs[k]=v:=c4 k _ _ (List.getElem?_eq_getElem hkc) hk;have hok:(ZAV b T (ds.set k (dS (Arr R) xs))).ok (fun j=>Imm P0 B (ZAV b T ds::hp) j/\j<w.heap.size) w:=by
  refine⟨cs,c1,by simp[c2],c3,fun j c e hc he=>?_⟩;rw[List.getElem?_set] at he;by_cases hjk:k=j
  ·rw[if_pos hjk,if_pos hkl] at he;cases he;subst hjk;rw[List.getElem?_eq_getElem hkc] at hc;cases hc;rw[hv];exact(dS (Arr R) xs).bound hA
  ·rw[if_neg hjk] at he;exact e.bound (c4 j c e hc he)
 refine h.on (hh2.write hgr (.inl rfl) hok) (hf.mono fun d u hd=>?_);exact Zd (o:=ZAV b T ds) (o':=ZAV b T (ds.set k (dS (Arr R) xs))) hgr (.inl rfl) (d.weak hd fun j hj=>ZWZ j ((hI1 j).1 hj))
theorem ZEs {c:Code} {α:Type} {R:Rel α} {_gR:Good R} {v:Value} {xs:List α} {eT:TypeId} (hk:ds[k]?=some (dX v)) (h:WC P Q c fr (ZAV b T (ds.set k (dS (Arr R) xs))::hp)):WC P Q c fr (ZAV b T ds::Zk v eT R xs::hp):=WC.of fun P0 B w0 w a hh hf=>by
 obtain⟨hh1,hI1⟩:=hh.perm (List.Perm.swap _ _ _);have hA:Arr R (Imm P0 B (ZAV b T ds::hp)) w v xs:=ZD5 hh1;have hh2:=hh1.drop;have hgr:w.grownBy w (ZAV b T ds).blk:=⟨rfl,rfl,rfl,Nat.le_refl _,fun _ _ _=>rfl⟩;obtain⟨cs,c1,c2,c3,c4⟩:=hh2.ok (ZAV b T ds) (by simp);have hkl:=(List.getElem?_eq_some_iff.1 hk).1;have hkc:k<cs.length:=by omega
 have hv:cs[k]=v:=c4 k _ _ (List.getElem?_eq_getElem hkc) hk;have hok:(ZAV b T (ds.set k (dS (Arr R) xs))).ok (fun j=>Imm P0 B (ZAV b T ds::hp) j/\j<w.heap.size) w:=by
  refine⟨cs,c1,by simp[c2],c3,fun j c e hc he=>?_⟩;rw[List.getElem?_set] at he;by_cases hjk:k=j
  ·rw[if_pos hjk,if_pos hkl] at he;cases he;subst hjk;rw[List.getElem?_eq_getElem hkc] at hc;cases hc;rw[hv];exact(dS (Arr R) xs).bound hA
  ·rw[if_neg hjk] at he;exact e.bound (c4 j c e hc he)
 refine h.on (hh2.write hgr (.inl rfl) hok) (hf.mono fun d u hd=>?_);exact Zd (o:=ZAV b T ds) (o':=ZAV b T (ds.set k (dS (Arr R) xs))) hgr (.inl rfl) (d.weak hd fun j hj=>ZWZ j ((hI1 j).1 hj))
end
abbrev Lb:=List (Int × Int) × List Int
abbrev Lab:Rel Lb:=R2 ZI ZAQ
theorem ZAA {α β:Type} {R:Rel α} {S:Rel β} [Good R] [Good S] {p:α × β}:(dS (R2 R S) p).le (ZEN [dS R p.1,dS S p.2]):=fun _ _ _ h=>by
 obtain⟨u,u',rfl,h0,h1,h3,h4⟩:=h;refine⟨[u,u'],rfl,rfl,fun c hc=>?_,fun k c d hc hd=>?_⟩
 ·simp only[List.mem_cons,List.not_mem_nil,or_false] at hc;rcases hc with rfl|rfl <;> assumption
 ·match k,hc,hd with
  | 0,hc,hd=>cases hc;cases hd;exact h3
  | 1,hc,hd=>cases hc;cases hd;exact h4
theorem ZUv {α β:Type} {R:Rel α} {S:Rel β} [Good R] [Good S] {x:α} {y:β}:(ZEN [dS R x,dS S y]).le (dS (R2 R S) (x,y)):=fun _ _ _ h=>by
 obtain⟨cs,rfl,h2,h3,h4⟩:=h
 match cs,h2 with
 | [u,u'],_=>exact⟨u,u',rfl,h3 u (by simp),h3 u' (by simp),h4 0 u _ rfl rfl,h4 1 u' _ rfl rfl⟩
theorem ZAp:StrT Tryz.prog 25 2:=⟨fun b off i w hi=>by
 have:i=0\/i=1:=by omega
 rcases this with rfl|rfl <;> go_simp⟩
theorem ZAz:TyI Tryz.prog 25 2 true:=⟨by kernel_rfl,Tryz.isAgg25⟩
theorem ZTD:TyZ Tryz.prog 25 (.agg #[.slice none 0 0,.slice none 0 0]):=⟨by kernel_rfl⟩
abbrev Sb:=List (List (Int × Int)) × List (Int × Int) × List (List (Int × Int))
abbrev ZUt:Rel Sb:=R3 Zh ZI Zh
theorem ZJK:StrT Tryz.prog 46 3:=⟨fun b off i w hi=>by
 have:i=0\/i=1\/i=2:=by omega
 rcases this with rfl|rfl|rfl <;> go_simp⟩
theorem ZQy:TyI Tryz.prog 46 3 true:=⟨by kernel_rfl,Tryz.isAgg46⟩
theorem tzSb:TyZ Tryz.prog 46 (.agg #[.slice none 0 0,.slice none 0 0,.slice none 0 0]):=⟨by kernel_rfl⟩
theorem ZBd {u u':Value} (h0:u.oneCell'=true) (h1:u'.oneCell'=true):(dX (.agg #[u,u'])).Shape 2 true:=fun _ _ _ h=>by
 cases (h:_=_);exact⟨[u,u'],rfl,by omega,fun c hc=>by
  simp only[List.mem_cons,List.not_mem_nil,or_false] at hc;rcases hc with rfl|rfl <;> assumption,rfl,rfl⟩
theorem ZJF {u u' u'':Value} (h0:u.oneCell'=true) (h1:u'.oneCell'=true) (h2:u''.oneCell'=true):(dX (.agg #[u,u',u''])).Shape 3 true:=fun _ _ _ h=>by
 cases (h:_=_);exact⟨[u,u',u''],rfl,by omega,fun c hc=>by
  simp only[List.mem_cons,List.not_mem_nil,or_false] at hc;rcases hc with rfl|rfl|rfl <;> assumption,rfl,rfl⟩
section
variable {ops:Array Oper} {hp:List HObj} {fr:List Dat} {d e:Dat} {Q:Z4} {rest:List Oper}
variable {dst:Option Tmp} {ty:TypeId} {ps:String} {af:Array Edge} {g:Option (Nat × Bool)}
theorem ZTP {x:Operand} {xs:List (Int × Int)} (hx:OpD fr x (dS ZI xs)):SY Tryz.prog ops hp ⟨dst,.build 25 #[(0,x)],ty,ps,af,g⟩ fr (ZEN [dS ZI xs,dX (.slice none 0 0)]):=ZWK fun {I w a} ho=>by
 have h1:ZI I w (a.eval x) xs:=hx.get (by simp[Op.operands]) ho;have h1':=h1;obtain⟨ad,c,hv,_⟩:=h1';rw[hv] at h1;have hm:∀ad n c w,(Instr.build 25 #[(0,.slice ad n c)]).run Tryz.prog w = .ok (.agg #[.slice ad n c,.slice none 0 0]) w:=by intro ad n c w;go_simp
 refine⟨.agg #[.slice ad xs.length c,.slice none 0 0],?_,[_,_],rfl,rfl,by simp[Value.oneCell'],fun k c d hc hd=>?_⟩
 ·unfold execOp;simp only[List.map_toArray,List.map_cons,List.map_nil,hv,Sem.run_bind,hm,Result.andThen_ok,Sem.run_pure]
 ·match k,hc,hd with
  | 0,hc,hd=>cases hc;cases hd;exact h1
  | 1,hc,hd=>cases hc;cases hd;rfl
end
end
end Go.Proofs.YtofkoleingbbpaaGreatDoor
