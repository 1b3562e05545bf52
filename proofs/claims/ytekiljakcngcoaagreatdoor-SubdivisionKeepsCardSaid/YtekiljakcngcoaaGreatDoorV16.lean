/- Part 16: walks by contracts, and plain laws. -/
import Derived.Test.YtekiljakcngcoaaGreatDoorV15
set_option linter.unusedVariables false
set_option linter.unusedSimpArgs false
set_option linter.unusedSectionVars false
set_option maxRecDepth 100000
set_option maxHeartbeats 4000000
namespace Go.Proofs.YtekiljakcngcoaaGreatDoor
section
open Go.RowKit
structure SW (P:Program) (ops:Array Oper) (hp:List HObj) {β:Type} (H:β->List HObj) (D:β->Dat) (o:Oper) (fr:List Dat):Prop where
 guard:o.guard=none
 out:∀ {P0:Nat->Prop} {B:Nat} {w0 w:World} {a:Act},Hp P0 B w0 hp w->On (o.looksAt ops) (Imm P0 B hp) w a fr->∀ (K:Act->World->Prop) (Q:Exit->Act->World->Prop),
  (∀ (x:β) (v:Value) (w':World),Hp P0 B w0 (H x) w'->(∀ (d:Dat) (u:Value),d.rd (Imm P0 B hp) w u->d.rd (Imm P0 B (H x)) w' u)->(D x).rd (Imm P0 B (H x)) w' v->K (a.put o.dst v) w')->o.wp P a w K Q
def HH {β:Type} (hp:List HObj) (H:β->List HObj):Option β->List HObj
 | none=>hp
 | some x=>H x
theorem HH.mem {β:Type} {hp:List HObj} {H:β->List HObj} {c:Option β} {o:HObj} (h:o∈hp) (k:∀ x,o∈H x):o∈HH hp H c:=by
 cases c with
 | none=>exact h
 | some x=>exact k x
section
variable {P:Program} {ops:Array Oper} {hp:List HObj} {md:Region.Mode} {β:Type} {H:β->List HObj} {D:β->Dat} {dd:Nat->Dat} {m:Nat} {fr fr':List Dat} {o:Oper}
theorem SW.same (h:SW P ops hp H D o fr) (hl:fr'.length=fr.length) (hs:∀ t∈o.looksAt ops,fr'[t]?=fr[t]?):SW P ops hp H D o fr':=⟨h.guard,fun hh ho K Q hk=>h.out hh (ho.same hl hs) K Q hk⟩
def sOpW (P:Program) (ops:Array Oper) (hp:List HObj) {β:Type} (H:β->List HObj) (D:β->Dat) (dd:Nat->Dat) (m:Nat) (i:Nat) (K:List Dat->Option β->Prop) (fr:List Dat) (c:Option β):Prop :=
 ∃ o,ops[i]?=some o/\((i=m/\c=none/\SW P ops hp H D o fr/\∀ x,K (ZA fr o.dst (D x)) (some x))\/(i≠m/\(∀ c,SYG P ops (HH hp H c) o fr (dd i))/\K (ZA fr o.dst (dd i)) c))
def ZFb (P:Program) (md:Region.Mode) (ops:Array Oper) (hp:List HObj) {β:Type} (H:β->List HObj) (D:β->Dat) (dd:Nat->Dat) (m n:Nat) (L:Array Bool->List Dat->Option β->Prop):Nat->Array Bool->List Dat->Option β->Prop
 | 0,listed,fr,c=>L listed fr c
 | f+1,listed,fr,c =>
  Region.ready md ops listed≠[]/\∀ i∈Region.ready md ops listed,i<n/\sOpW P ops hp H D dd m i (ZFb P md ops hp H D dd m n L f (listed.setIfInBounds i true)) fr c
theorem ZCT {n g:Nat} {L:Array Bool->List Dat->Option β->Prop} {Q':Exit->Act->World->Prop} {P0:Nat->Prop} {B:Nat} {w0:World}:∀ (f:Nat) (listed:Array Bool) (fr:List Dat) (c:Option β) (a:Act) (w:World),Hp P0 B w0 (HH hp H c) w->Fr (Imm P0 B (HH hp H c)) w a fr ->
  (∀ listed fr c a w',Hp P0 B w0 (HH hp H c) w'->Fr (Imm P0 B (HH hp H c)) w' a fr->L listed fr c->wpAny P md ops Q' g listed a w')->ZFb P md ops hp H D dd m n L f listed fr c->wpAny P md ops Q' (f+g) listed a w
 | 0,listed,fr,c,a,w,hh,hf,hL,h=>by rw [Nat.zero_add];exact hL _ _ _ _ _ hh hf h
 | f+1,listed,fr,c,a,w,hh,hf,hL,h=>by
  rw [show f+1+g=(f+g)+1 by omega]
  refine ⟨fun h0=>absurd h0 h.1,fun i hi=>?_⟩
  obtain ⟨o,ho,h1⟩:=(h.2 i hi).2
  unfold wpOp
  simp only [ho]
  rcases h1 with ⟨hm,hc,hw,hk⟩|⟨hm,hs,hk⟩
  ·subst hc
   have hwant:Region.wanted o (yielded ops a.tmps)=true:=by simp [Region.wanted,hw.guard]
   rw [if_pos hwant]
   refine .inl (hw.out hh (hf.on _) _ _ fun x v w' hh' hrd hd=>?_)
   exact ZCT f _ _ (some x) _ _ hh' (Fr.put (hf.mono fun d u hu=>hrd d u hu) hd) hL (hk x)
  ·have:=(hs c).step (Q:=Q') hh hf (K:=wpAny P md ops Q' (f+g) (listed.setIfInBounds i true)) fun a' w' e hf'=>ZCT f _ _ c _ _ (hh.ext e) hf' hL hk
   split
   ·rename_i hw;rw [if_pos hw] at this;exact .inl this
   ·rename_i hw;rw [if_neg hw] at this;exact this
theorem ZKG {n i:Nat} {oi:Oper} {L:Array Bool->List Dat->Option β->Prop} (hi:ops[i]?=some oi) (him:i≠m)
  (hs:Region.sinkB md ops n=true) (hc:Region.chainB md ops n=true) (hn:n<ops.size) (hin:i<n)
  (hdone:∀ listed a c,L listed a c->∀ j∈Region.ready md ops listed,n≤j) :
  ∀ (f:Nat) (listed:Array Bool) (fr:List Dat) (c:Option β),HeadInv md ops n listed ->
   (∀ j oj,ops[j]?=some oj->j≠i->listed.getD j true=false->(∀ e∈oj.after,Region.binds md e=true->e.on≠i)->oi.apart ops oj=true) ->
   i∈Region.ready md ops listed->(∀ c,SYG P ops (HH hp H c) oi fr (dd i)) ->
   ZFb P md ops hp H D dd m n L f (listed.setIfInBounds i true) (ZA fr oi.dst (dd i)) c->ZFb P md ops hp H D dd m n L (f+1) listed fr c:=by
 intro f
 induction f with
 | zero =>
  intro listed fr c inv _ hr hy H
  have hun:=(mem_ready.1 hr).1
  refine ⟨fun h=>(by rw [h] at hr;cases hr),fun j hj=>?_⟩
  have hjn:j<n:=by
   rcases Nat.lt_or_ge j n with h|h
   ·exact h
   ·exact absurd hj (tail_waits hs hc hn inv _ i rfl hin hun j h)
  refine ⟨hjn,?_⟩
  by_cases hji:j=i
  ·subst hji;exact ⟨oi,hi,.inr ⟨him,hy,H⟩⟩
  ·have:=hdone _ _ _ H j (ready_mono hj hji)
   omega
 | succ f ih =>
  intro listed fr c inv hfree hr hy H
  have hun:=(mem_ready.1 hr).1
  refine ⟨fun h=>(by rw [h] at hr;cases hr),fun j hj=>?_⟩
  have hjn:j<n:=by
   rcases Nat.lt_or_ge j n with h|h
   ·exact h
   ·exact absurd hj (tail_waits hs hc hn inv _ i rfl hin hun j h)
  refine ⟨hjn,?_⟩
  by_cases hji:j=i
  ·subst hji;exact ⟨oi,hi,.inr ⟨him,hy,H⟩⟩
  ·obtain ⟨oj',hoj',h1⟩:=(H.2 j (ready_mono hj hji)).2
   obtain ⟨hjun,oj,hoj,hall⟩:=mem_ready.1 hj
   have hoo:oj=oj':=by rw [hoj] at hoj';simpa using hoj'
   subst hoo
   have hnot:∀ e∈oj.after,Region.binds md e=true->e.on≠i:=fun e he hb heq=>by
    have h1:=hall e he hb
    rw [heq,getD_both hun] at h1
    cases h1
   obtain ⟨a1,a2,a3⟩:=Oper.apart_spec (hfree j oj hoj hji hjun hnot)
   have hfree':∀ k ok,ops[k]?=some ok->k≠i->(listed.setIfInBounds j true).getD k true=false ->
     (∀ e∈ok.after,Region.binds md e=true->e.on≠i)->oi.apart ops ok=true:=fun k ok hk hki hun hno=>by
    refine hfree k ok hk hki ?_ hno
    by_cases hjk:j=k
    ·subst hjk;exact hjun
    ·rw [getD_set_ne true hjk] at hun;exact hun
   have key:∀ (d:Dat) (c':Option β),ZFb P md ops hp _ D dd m n L f ((listed.setIfInBounds i true).setIfInBounds j true) (ZA (ZA fr oi.dst (dd i)) oj.dst d) c' ->
     ZFb P md ops hp _ D dd m n L (f+1) (listed.setIfInBounds j true) (ZA fr oj.dst d) c':=fun d c' hk=>by
    refine ih (listed.setIfInBounds j true) (ZA fr oj.dst d) c' (inv.set hj hjn) hfree' (ready_mono hr (Ne.symm hji)) (fun c=>(hy c).same (ZAG _ _ _) fun t ht=>ZAb fun e=>a3 t e ht) ?_
    rw [Array.setIfInBounds_comm _ _ hji,<- ZDO fr (dd i) d a2]
    exact hk
   refine ⟨oj,hoj,?_⟩
   rcases h1 with ⟨hm,hcn,hw,hk⟩|⟨hm,hs',hk⟩
   ·exact .inl ⟨hm,hcn,hw.same (ZAG _ _ _).symm fun t ht=>(ZAb fun e=>a1 t e ht).symm,fun x=>key _ _ (hk x)⟩
   ·exact .inr ⟨hm,fun c=>(hs' c).same (ZAG _ _ _).symm fun t ht=>(ZAb fun e=>a1 t e ht).symm,key _ _ hk⟩
inductive WDs (P:Program) (ops:Array Oper) (hp:List HObj) {β:Type} (H:β->List HObj) (Q:List Dat->Prop):List Oper->List Dat->Prop
 | nil {fr:List Dat}:Q fr->WDs P ops hp H Q [] fr
 | op {o:Oper} {rest:List Oper} {fr:List Dat} {d:Dat}:(∀ c,SYG P ops (HH hp H c) o fr d)->WDs P ops hp H Q rest (ZA fr o.dst d)->WDs P ops hp H Q (o::rest) fr
theorem WDs.id {Q:List Dat->Prop} {l:List Oper} {f:List Dat} (h:WDs P ops hp H Q l f):WDs P ops hp H Q l f:=h
def ChD (P:Program) (ops:Array Oper) (hp:List HObj) {β:Type} (H:β->List HObj) (dd:Nat->Dat) (Q:List Dat->Prop):List Oper->Nat->List Dat->Prop
 | [],_,fr=>Q fr
 | o::rest,k,fr=>(∀ c,SYG P ops (HH hp H c) o fr (dd k))/\ChD P ops hp H dd Q rest (k+1) (ZA fr o.dst (dd k))
theorem ZIp {dd':Nat->Dat} {Q:List Dat->Prop}:∀ (l:List Oper) (k:Nat) (fr:List Dat),(∀ j,k≤j->dd j=dd' j)->ChD P ops hp H dd Q l k fr->ChD P ops hp H dd' Q l k fr
 | [],_,_,_,h=>h
 | _::rest,k,_,he,h=>by
  refine ⟨by rw [<- he k (Nat.le_refl _)];exact h.1,?_⟩
  rw [<- he k (Nat.le_refl _)]
  exact ZIp rest (k+1) _ (fun j hj=>he j (by omega)) h.2
theorem WDs.ch {Q:List Dat->Prop}:∀ (l:List Oper) (k:Nat) (fr:List Dat),WDs P ops hp H Q l fr->∃ dd,ChD P ops hp H dd Q l k fr
 | [],_,_,h=>⟨fun _=>dA,by cases h;assumption⟩
 | _::rest,k,_,h=>by
  cases h
  rename_i d hd hr
  obtain ⟨dd,h1⟩:=WDs.ch rest (k+1) _ hr
  refine ⟨fun j=>if j=k then d else dd j,?_,?_⟩
  ·simpa using hd
  ·simp only [if_true]
   exact ZIp rest (k+1) _ (fun j hj=>by rw [if_neg (by omega)]) h1
theorem ZDk {n g:Nat} {Lq:List Dat->Option β->Prop} {ow:Oper} (how:ops[m]?=some ow) (hs:Region.sinkB md ops (m+1)=true) (hc:Region.chainB md ops (m+1)=true) (hn:m+1<ops.size) :
  ∀ (l:List Oper) (k:Nat) (listed:Array Bool) (fr:List Dat),(∀ j,j<l.length->l[j]?=ops[k+j]?)->k+l.length=m->HeadInv md ops (m+1) listed->(∀ j,j<k->listed.getD j true=true) ->
  Region.lexHead md ops g (l.length+1) k listed=true->ChD P ops hp H dd (fun fr=>SW P ops hp H D ow fr/\∀ x,Lq (ZA fr ow.dst (D x)) (some x)) l k fr ->
  ZFb P md ops hp H D dd m (m+1) (fun listed' a' c'=>Region.seqB md ops g (m+1) listed'=true/\Lq a' c') (l.length+1) listed fr none
 | [],k,listed,fr,hl,hk,inv,hbefore,hB,h=>by
  have hkm:k=m:=by simpa using hk
  subst hkm
  simp only [List.length_nil,Region.lexHead,Bool.and_eq_true] at hB
  obtain ⟨⟨hr,hf⟩,hB'⟩:=hB
  have hr':k∈Region.ready md ops listed:=by simpa using hr
  have hun:=(mem_ready.1 hr').1
  refine ⟨fun h0=>(by rw [h0] at hr';cases hr'),fun i hi=>?_⟩
  have hile:i<k+1:=by
   rcases Nat.lt_or_ge i (k+1) with h1|h1
   ·exact h1
   ·exact absurd hi (tail_waits hs hc hn inv _ k rfl (by omega) hun i h1)
  have hik:i=k:=by
   rcases Nat.lt_or_ge i k with h1|h1
   ·have h2:=(mem_ready.1 hi).1
    rw [hbefore i h1] at h2
    cases h2
   ·omega
  subst hik
  exact ⟨by omega,ow,how,.inl ⟨rfl,rfl,h.1,fun x=>⟨hB',h.2 x⟩⟩⟩
 | o::l,k,listed,fr,hl,hk,inv,hbefore,hB,h=>by
  have h0:ops[k]?=some o:=by simpa using (hl 0 (by simp)).symm
  simp only [List.length_cons] at hB
  rw [Region.lexHead] at hB
  simp only [Bool.and_eq_true] at hB
  obtain ⟨⟨hr,hf⟩,hB'⟩:=hB
  have hkn:k<m:=by simp only [List.length_cons] at hk;omega
  have hr':k∈Region.ready md ops listed:=by simpa using hr
  have hklt:k<listed.size:=by rw [inv.size];omega
  exact ZKG h0 (by omega) hs hc hn (by omega) (fun listed' a' c' hL=>seqB_ready hL.1) (l.length+1) listed fr none inv (Region.free_spec h0 hf) hr' h.1
   (ZDk (n:=n) how hs hc hn l (k+1) _ _ (fun j hj=>by have:=hl (j+1) (by simp;omega);simpa [Nat.add_assoc,Nat.add_comm 1 j] using this) (by simp only [List.length_cons] at hk;omega) (inv.set hr' (by omega))
    (fun j hj=>by
     by_cases hjk:k=j
     ·subst hjk;simp [hklt]
     ·rw [getD_set_ne true hjk];exact hbefore j (by omega)) hB' h.2)
theorem WC.drawW {id:Nat} {l:List Oper} {Q:ZAW} (n:Nat) (H:β->List HObj) (D:β->Dat) (ow:Oper) (how:l[n]?=some ow) (hm:P.follows .mixedOrders=true) (hB:Region.lexTailB .any l.toArray (n+1)=true)
  (h:WDs P l.toArray hp H (fun f=>SW P l.toArray hp H D ow f/\∀ x,WL P l.toArray Q (l.drop (n+1)) (ZA f ow.dst (D x)) (H x)) (l.take n) fr):WC P Q (.region id l.toArray true) fr hp:=by
 refine WC.of fun P0 B w0 w a hh hf=>?_
 simp only [Region.lexTailB,Bool.and_eq_true,decide_eq_true_eq] at hB
 obtain ⟨⟨⟨⟨hsel,hn⟩,hs⟩,hc⟩,hlex⟩:=hB
 have hn':n+1<l.length:=by simpa using hn
 have htl:(l.take n).length=n:=by simp;omega
 have hdl:(l.drop (n+1)).length=l.toArray.size-(n+1):=by simp
 have inv0:HeadInv .any l.toArray (n+1) (Array.replicate l.toArray.size false) :=
  ⟨by simp,fun j oj _ hl=>(by rw [getD_replicate_false] at hl;cases hl),fun t _ ht=>getD_in (by simpa using ht) (getD_replicate_false _ _)⟩
 obtain ⟨dd,hch⟩:=h.ch (l.take n) 0 fr
 have HW:=ZDk (n:=n) (Lq:=fun f c=>WL P l.toArray Q (l.drop (n+1)) f (HH hp H c)) (md:=.any) (g:=l.toArray.size-(n+1)) (ow:=ow) (m:=n) (by simpa using how) hs hc hn (l.take n) 0 _ fr (fun j hj=>by
  have hj':j<n:=by rw [htl] at hj;exact hj
  simp [hj']) (by simpa using htl) inv0 (fun j hj=>by omega) (by rw [htl];exact hlex) hch
 have hx:Ext w { w with drawn:=w.drawn+1 }:=(Ext.refl w).drew
 refine wp_region_any hm ?_
 have:=ZCT (Q':=ZCE Q P0 B w0) (g:=l.toArray.size-(n+1)) _ _ _ none _ _ (hh.ext hx) (hf.ext hx) (fun listed fr' c a' w' hh' hf' hL=>by
  have:=wpAny_of_seq (md:=.any) (Q':=ZCE Q P0 B w0) (l.drop (n+1)) (n+1) listed a' w' (fun j=>by simp [List.getElem?_drop]) (by rw [hdl];exact hL.1) (hL.2.on hh' hf')
  rwa [hdl] at this) HW
 rw [htl,show n+1+(l.toArray.size-(n+1))=l.toArray.size by omega] at this
 exact this
end
section
variable {P:Program} {ops:Array Oper} {hp:List HObj} {fr:List Dat} {d:Dat}
variable {dst:Option Tmp} {ty:TypeId} {ps:String} {af:Array Edge} {b cap N bytes:Nat} {e t T T2:TypeId} {xs:List Vx} {z:Value} {ag:Bool}
theorem ZQH {k:Nat} {j:Int} {y:Operand} (E:ElT P t e 2 z bytes ag) (hy:OpD fr y (dI j)) (hj:j=(k:Int)) (hb:bytes*k≤281474976710656) (hm:k≤maxLen) :
  SW P ops hp (fun b:Nat=>hV b 0 k e []::hp) (fun b=>dX (.slice (some ⟨b,0,none⟩) 0 k)) ⟨dst,.makeSlice t (.const (.int .i64 0)) y,ty,ps,af,none⟩ fr:=⟨rfl,fun {P0 B w0 w a} hh ho K Q hk=>by
 have h1:a.eval y = .int .i64 k:=by rw [<- hj];exact hy.get (by simp [Op.operands]) ho
 obtain ⟨i,hi,hz,hsz,hbt⟩:=info_parts E.info
 obtain ⟨w',hr,r1,r2⟩:=run_make_own (P:=P) w 0 t e i z 2 E.und hi hz hsz .i64 .i64 k (by rw [hbt];exact hb) hm (Nat.zero_le _)
 have hrun:(execOp a.eval ⟨dst,.makeSlice t (.const (.int .i64 0)) y,ty,ps,af,none⟩).run P w = .ok (.value (.slice (some ⟨w.heap.size,0,none⟩) 0 k)) w':=by
  unfold execOp
  have hc:a.eval (.const (.int .i64 0)) = .int .i64 0:=rfl
  simp only [h1,hc,Sem.run_bind,hr,Result.andThen_ok,Sem.run_pure]
 unfold Oper.wp
 rw [hrun]
 have hx:Ext w w':=⟨r2.os,r2.tape,r2.output,r2.size,fun k hk=>r2.block k hk (by simp)⟩
 have hb:∀ q,(hV w.heap.size 0 k e []).blk=some q->w.heap.size≤q/\q<w'.heap.size:=fun q hq=>by
  cases hq
  exact ⟨Nat.le_refl _,(r1.lt _ rfl).2⟩
 exact hk w.heap.size _ w' (hh.push hx hb (ZJx (xs:=[]) r1)) (fun d u hd=>Z6 hx (fun k hk=>(hb k hk).1) hd) rfl⟩
theorem ZQI {s y:Operand} {v:Vx} (E:ElT P t e 2 z bytes ag) (hs:OpD fr s (dX (.slice (some ⟨b,0,none⟩) N cap))) (hy:OpD fr y (dS (ArrK 2 RV) [v])) (hN:N+1≤cap) :
  SW P ops (hV b N cap e xs::hp) (fun _:Unit=>hV b (N+1) cap e (xs++[v])::hp) (fun _=>dX (.slice (some ⟨b,0,none⟩) (N+1) cap)) ⟨dst,.call { callee:=.builtin .append,args:=#[s,y],argTypes:=#[t,t] },ty,ps,af,none⟩ fr:=⟨rfl,fun {P0 B w0 w a} hh ho K Q hk=>by
 obtain ⟨ad,cap',hv,c1,c2,c0,c3⟩:=(hy.get (by simp [Op.operands,Call.operands]) ho:ArrK 2 RV _ _ _ _)
 obtain ⟨cs,b',off,r1,r2,r3,r4,r5,r6⟩:=c3 0 (by simp)
 subst r4
 have hNx:=(ZDr.1 (hh.ok (hV b N cap e xs) (by simp))).1
 have hown:=ZPI (hh.ok (hV b N cap e xs) (by simp))
 obtain ⟨i,hi,hz,hsz,hbt⟩:=info_parts E.info
 subst hNx
 have hcs:cs=ZCU v:=by
  have h1:Value.agg cs.toArray=Value.agg (ZCU v).toArray:=r1
  have h2:cs.toArray=(ZCU v).toArray:=by injection h1
  have:=congrArg Array.toList h2
  simpa using this
 obtain ⟨w',hr,q1,q2⟩:=run_append_fits (P:=P) w 0 t ty e i 2 E.und hi hsz b xs.length cap (Zs xs) hown ⟨b',off,none⟩ 1 cap' cs (by rw [r2]) (fun j u hu=>by rw [Addr.add_lit];simpa using r6 j u hu) r3 hN
 have hse:a.eval s = .slice (some ⟨b,0,none⟩) xs.length cap:=hs.get (by simp [Op.operands,Call.operands]) ho
 have hrun:(execOp a.eval ⟨dst,.call { callee:=.builtin .append,args:=#[s,y],argTypes:=#[t,t] },ty,ps,af,none⟩).run P w = .ok (.value (.slice (some ⟨b,0,none⟩) (xs.length+1) cap)) w':=by
  unfold execOp
  simp only [resolve,invoke,builtin,List.map_toArray,List.map_cons,List.map_nil,hse,hv,Sem.run_bind,Sem.run_pure,Result.andThen_ok]
  have e0:([v]:List Vx).length=1:=rfl
  rw [e0,hr]
  simp
 unfold Oper.wp
 rw [hrun]
 have hfl:Zs xs++cs=Zs (xs++[v]):=by rw [ZBV,hcs];rfl
 rw [hfl] at q1
 have hok:(hV b (xs.length+1) cap e (xs++[v])).ok (fun k=>Imm P0 B (hV b xs.length cap e xs::hp) k/\k<w.heap.size) w':=ZJx (by simpa using q1)
 exact hk () _ w' (hh.write (o':=hV b (xs.length+1) cap e (xs++[v])) q2 (.inl rfl) hok) (fun d u hd=>ZY (o:=hV b xs.length cap e xs) (o':=hV b (xs.length+1) cap e (xs++[v])) q2 (.inl rfl) hd) rfl⟩
end
section
variable {P:Program} {ops:Array Oper} {hp:List HObj} {fr:List Dat} {d:Dat}
variable {dst:Option Tmp} {ty:TypeId} {ps:String} {af:Array Edge}
theorem ZNL {b cap bytes:Nat} {e t:TypeId} {xs:List Vx} {z:Value} {ag:Bool} {s y:Operand} {v:Vx} (E:ElT P t e 2 z bytes ag) (hs:OpD fr s (dX (ZSp b cap xs))) (hy:OpD fr y (dS (ArrK 2 RV) [v])) (hN:xs.length+1≤cap) :
  SW P ops (hV b xs.length cap e xs::hp) (fun _:Unit=>hV b (xs++[v]).length cap e (xs++[v])::hp) (fun _=>dX (ZSp b cap (xs++[v]))) ⟨dst,.call { callee:=.builtin .append,args:=#[s,y],argTypes:=#[t,t] },ty,ps,af,none⟩ fr:=by
 have h:=ZQI (hp:=hp) (ops:=ops) (dst:=dst) (ty:=ty) (ps:=ps) (af:=af) (xs:=xs) E hs hy hN
 have hl:(xs++[v]).length=xs.length+1:=by simp
 unfold ZSp
 rw [hl]
 exact h
def hAll (I0:Nat->Prop) (w0:World):HObj where
 blk:=none
 ok:=fun I w=>∀ (d:Dat) (u:Value),d.rd I0 w0 u->d.rd I w u
 weak:=fun h q d u hd=>d.weak (h d u hd) q
 bound:=fun h d u hd=>d.bound (h d u hd)
 move:=fun h hg hP _ d u hd=>d.grown (h d u hd) hg hP
theorem ZFj {f:FuncId} {caps:List Value} {cl:Operand} {args:Array Operand} {ats:Array TypeId} {ds1:List Dat} {hp1:List HObj} {K:Dat->List HObj->Prop} {β:Type} {H:β->List HObj} {D:β->Dat} (hF:CallC P f (ds1++caps.map dX) hp1 K) (he:ZAn P f) (hc:OpD fr cl (dX (.func (.func f) #[] caps.toArray))) (ha:ArgsD fr args.toList ds1)
  (hK:∀ d hp2,K d hp2->∃ x,d=D x/\hp2=H x) :
  SW P ops (hp1++hp) (fun x=>H x++hp) D ⟨dst,.call { callee:=.value cl,args:=args,argTypes:=ats },ty,ps,af,none⟩ fr:=⟨rfl,fun {P0 B w0 w a} hh ho KK QQ hkk=>by
 have hev:a.eval cl = .func (.func f) #[] caps.toArray:=hc.get (by simp [Op.operands,Call.operands]) ho
 have h4:=he (args.map a.eval++caps.toArray) w
 have hrun:(execOp a.eval ⟨dst,.call { callee:=.value cl,args:=args,argTypes:=ats },ty,ps,af,none⟩).run P w = .ok (.enter f (args.map a.eval++caps.toArray)) w:=by
  unfold execOp
  simp only [resolve]
  simp [hev,Deferred.ofValue,invoke,h4]
 unfold Oper.wp
 rw [hrun]
 have hgb:(hAll (Imm P0 B (hp1++hp)) w).blk=none:=rfl
 have hG:Hp P0 B w0 (hp1++hAll (Imm P0 B (hp1++hp)) w::hp) w:=ZBT hgb hh (fun d u hd=>hd)
 have hvs:args.map a.eval++caps.toArray=(args.toList.map a.eval++caps).toArray:=by apply Array.ext';simp
 have hal:args.size=ds1.length:=by simpa using ha.1
 have hl:(args.toList.map a.eval++caps).length=(ds1++caps.map dX).length:=by simp [hal]
 have hcalls:=hF.out P0 B w0 (hAll (Imm P0 B (hp1++hp)) w::hp) (args.toList.map a.eval++caps) w hG hl fun i d hd=>by
  by_cases hi:i<ds1.length
  ·rw [List.getElem?_append_left hi] at hd
   have hi':i<args.toList.length:=by simpa [hal] using hi
   have h2:=(ha.2 i _ d (List.getElem?_eq_getElem hi') hd).get (by simp only [Op.operands,Call.operands];simp) ho
   have hi2:i<args.size:=by simpa using hi'
   have:(args.toList.map a.eval++caps).getD i undef=a.eval args.toList[i]:=by
    rw [List.getD_eq_getElem?_getD,List.getElem?_append_left (by simpa using hi2)]
    simp [hi2]
   rw [this]
   exact d.weak h2 fun k=>(ZAC hgb hp1 k).2
  ·rw [List.getElem?_append_right (by omega)] at hd
   rw [List.getD_eq_getElem?_getD,List.getElem?_append_right (by simp;omega)]
   have hlen:(args.toList.map a.eval).length=ds1.length:=by simp [hal]
   rw [hlen]
   rw [List.getElem?_map] at hd
   cases hq:caps[i-ds1.length]? with
   | none=>rw [hq] at hd;cases hd
   | some u=>rw [hq] at hd;cases hd;rfl
 rw [hvs]
 exact hcalls.mono fun e w' ⟨v,d',hp2,hv,hk,hh',hd'⟩=>by
  subst hv
  obtain ⟨x,rfl,rfl⟩:=hK d' hp2 hk
  obtain ⟨hh2,hok2⟩:=hh'.unghost hgb
  exact hkk x v w' hh2 (fun d u hd=>hok2 d u hd) ((D x).weak hd' fun k=>(ZAC hgb (H x) k).1)⟩
end
namespace I
section
variable {P:Program} {ops:Array Oper} {hp:List HObj} {md:Region.Mode} {β:Type} {H:β->List HObj} {D:β->Dat} {dd:Nat->Dat} {m:Nat} {fr fr':List Dat} {o:Oper}
theorem ZBJ {n g:Nat} {L:Array Bool->List Dat->Option β->Prop} {Q':Exit->Act->World->Prop} {P0:Nat->Prop} {B:Nat} {w0:World}:∀ (f:Nat) (listed:Array Bool) (fr:List Dat) (c:Option β) (a:Act) (w:World),Hp P0 B w0 (HH hp H c) w->Fr (Imm P0 B (HH hp H c)) w a fr ->
  (∀ listed fr c a w',Hp P0 B w0 (HH hp H c) w'->Fr (Imm P0 B (HH hp H c)) w' a fr->L listed fr c->wpAnyIn Fence.wide 0 P md ops Q' g listed a w')->ZFb P md ops hp H D dd m n L f listed fr c->wpAnyIn Fence.wide 0 P md ops Q' (f+g) listed a w
 | 0,listed,fr,c,a,w,hh,hf,hL,h=>by rw [Nat.zero_add];exact hL _ _ _ _ _ hh hf h
 | f+1,listed,fr,c,a,w,hh,hf,hL,h=>by
  rw [show f+1+g=(f+g)+1 by omega]
  refine ⟨fun h0=>absurd h0 h.1,fun i hi=>?_⟩
  obtain ⟨o,ho,h1⟩:=(h.2 i hi).2
  unfold wpOpIn
  simp only [ho]
  rcases h1 with ⟨hm,hc,hw,hk⟩|⟨hm,hs,hk⟩
  ·subst hc
   have hwant:Region.wanted o (yielded ops a.tmps)=true:=by simp [Region.wanted,hw.guard]
   rw [if_pos hwant]
   refine ZDL (hw.out hh (hf.on _) _ _ fun x v w' hh' hrd hd=>?_)
   exact ZBJ f _ _ (some x) _ _ hh' (Fr.put (hf.mono fun d u hu=>hrd d u hu) hd) hL (hk x)
  ·have:=(hs c).step (Q:=Q') hh hf (K:=wpAnyIn Fence.wide 0 P md ops Q' (f+g) (listed.setIfInBounds i true)) fun a' w' e hf'=>ZBJ f _ _ c _ _ (hh.ext e) hf' hL hk
   split
   ·rename_i hw;rw [if_pos hw] at this;exact ZDL this
   ·rename_i hw;rw [if_neg hw] at this;exact ⟨fun _ _=>trivial,this⟩
theorem WC.drawW {id:Nat} {l:List Oper} {Q:ZAW} (n:Nat) (H:β->List HObj) (D:β->Dat) (ow:Oper) (how:l[n]?=some ow) (hm:P.follows .mixedOrders=true) (hB:Region.lexTailB .any l.toArray (n+1)=true)
  (h:WDs P l.toArray hp H (fun f=>SW P l.toArray hp H D ow f/\∀ x,WL P l.toArray Q (l.drop (n+1)) (ZA f ow.dst (D x)) (H x)) (l.take n) fr):WC P Q (.region id l.toArray true) fr hp:=by
 refine WC.of fun P0 B w0 w a hh hf=>?_
 simp only [Region.lexTailB,Bool.and_eq_true,decide_eq_true_eq] at hB
 obtain ⟨⟨⟨⟨hsel,hn⟩,hs⟩,hc⟩,hlex⟩:=hB
 have hn':n+1<l.length:=by simpa using hn
 have htl:(l.take n).length=n:=by simp;omega
 have hdl:(l.drop (n+1)).length=l.toArray.size-(n+1):=by simp
 have inv0:HeadInv .any l.toArray (n+1) (Array.replicate l.toArray.size false) :=
  ⟨by simp,fun j oj _ hl=>(by rw [getD_replicate_false] at hl;cases hl),fun t _ ht=>getD_in (by simpa using ht) (getD_replicate_false _ _)⟩
 obtain ⟨dd,hch⟩:=h.ch (l.take n) 0 fr
 have HW:=ZDk (n:=n) (Lq:=fun f c=>WL P l.toArray Q (l.drop (n+1)) f (HH hp H c)) (md:=.any) (g:=l.toArray.size-(n+1)) (ow:=ow) (m:=n) (by simpa using how) hs hc hn (l.take n) 0 _ fr (fun j hj=>by
  have hj':j<n:=by rw [htl] at hj;exact hj
  simp [hj']) (by simpa using htl) inv0 (fun j hj=>by omega) (by rw [htl];exact hlex) hch
 have hx:Ext w { w with drawn:=w.drawn+1 }:=(Ext.refl w).drew
 refine wpIn_wide.1 (wpIn_region_any (n:=0) hm ?_)
 have:=ZBJ (Q':=ZCE Q P0 B w0) (g:=l.toArray.size-(n+1)) _ _ _ none _ _ (hh.ext hx) (hf.ext hx) (fun listed fr' c a' w' hh' hf' hL=>by
  have:=ZBm (md:=.any) (Q':=ZCE Q P0 B w0) (l.drop (n+1)) (n+1) listed a' w' (fun j=>by simp [List.getElem?_drop]) (by rw [hdl];exact hL.1) (hL.2.on hh' hf')
  rwa [hdl] at this) HW
 rw [htl,show n+1+(l.toArray.size-(n+1))=l.toArray.size by omega] at this
 exact this
end
end I
end
section
open Go.RowKit

def ZD0 (v:Value) (k:Nat):Value:=match v with
 | .slice (some ⟨b,_,_⟩) _ _=>.pointer (some ⟨b,k,none⟩)
 | _=>undef
section
variable {P:Program} {ops:Array Oper} {hp:List HObj} {o:Oper} {fr:List Dat} {d:Dat} {Q:ZAW} {rest:List Oper}
variable {dst:Option Tmp} {ty:TypeId} {ps:String} {af:Array Edge} {g:Option (Nat × Bool)} {e e' t T:TypeId} {bytes:Nat} {z:Value} {ag:Bool} {α:Type} {R:Rel α} {xs:List α} {v:Value}
theorem ZPJ {I:Nat->Prop} {w:World} (h:Own 0 e R I w v xs) {k:Nat} (hk:k<xs.length):∃ (b cap:Nat) (us:List Value),v = .slice (some ⟨b,0,none⟩) xs.length cap/\us.length=xs.length/\∃ (hu:k<us.length),us[k].oneCell'=true/\R (fun j=>I j/\v.ownBlock≠some j) w us[k] xs[k]/\w.cell? ⟨b,k,none⟩=some us[k]:=by
 obtain ⟨us,h1,⟨h2,h3⟩,h4⟩:=h
 rcases h3 with ⟨_,hz⟩|⟨g,cap,cur,hv,hB,hg,hc1,hc2,hc3,hc4⟩
 ·omega
 ·have hu:k<us.length:=by omega
  refine ⟨g,cap,us,hv,h1,hu,(h4 k hu hk).1,(h4 k hu hk).2,?_⟩
  rw [Nat.mul_one] at hc3 hc4
  have hkc:k<cur.size:=by omega
  have:cur[k]=us[k]:=by
   have e1:us[k]?=(cur.toList.take xs.length)[k]?:=by rw [hc4]
   rw [List.getElem?_take_of_lt hk,List.getElem?_eq_getElem hu] at e1
   simpa [hkc] using e1.symm
  simp [World.cell?,hg,hkc,this]
theorem ZUU {_gR:Good R} {x i:Operand} {k:Nat} {j:Int} (E:ElT P t e 1 z bytes ag) (hx:OpD fr x (dX v)) (hm:Zr v e' R xs∈hp) (hi:OpD fr i (dI j)) (hj:j=(k:Int)) (hk:k<xs.length) :
  SY P ops hp ⟨dst,.indexAddr t x i,ty,ps,af,g⟩ fr (dX (ZD0 v k)):=ZAf fun {P0 B w0 w a} hh ho=>by
 have h1:a.eval x=v:=hx.get (by simp [Op.operands]) ho
 have h2:a.eval i=_:=hi.get (by simp [Op.operands]) ho
 obtain ⟨b,cap,us,hv,_⟩:=ZPJ (hh.ok _ hm) hk
 refine ⟨.pointer (some ⟨b,0+k*1,none⟩),w,?_,Ext.refl _,?_⟩
 ·unfold execOp
  simp only [h1,hv,h2,hj,Sem.run_bind,ZBL (w:=w) E b 0 xs.length cap k .i64 hk,Result.andThen_ok,Sem.run_pure]
 ·show _=ZD0 v k
  rw [hv];simp [ZD0]
theorem ZQN {_gR:Good R} {x:Operand} {k:Nat} (T':TyI P T 1 false) (hx:OpD fr x (dX (ZD0 v k))) (hm:Zr v e' R xs∈hp) (hk:k<xs.length) :
  SY P ops hp ⟨dst,.load T x,ty,ps,af,g⟩ fr (dS R xs[k]):=ZAf fun {P0 B w0 w a} hh ho=>by
 have h1:a.eval x=ZD0 v k:=hx.get (by simp [Op.operands]) ho
 obtain ⟨b,cap,us,hv,hl,hu,o1,o2,o3⟩:=ZPJ (hh.ok _ hm) hk
 have hc:Cells (fun _=>True) w b k 1 false us[k]:=by
  refine ⟨trivial,[us[k]],rfl,by decide,?_,fun i c hc=>?_,rfl⟩
  ·intro c hc;rw [List.mem_singleton.1 hc];exact o1
  ·have hi:i=0:=by
    have:=(List.getElem?_eq_some_iff.1 hc).1
    simp at this;exact this
   subst hi
   cases hc
   exact o3
 have h1':a.eval x = .pointer (some ⟨b,k,none⟩):=by rw [h1,hv];rfl
 refine ⟨us[k],w,?_,Ext.refl _,Good.weak o2 fun j hj=>hj.1⟩
 unfold execOp
 simp only [h1',Sem.run_bind,ZA3 T' hc,Result.andThen_ok,Sem.run_pure]
theorem ZT8 [Good R] {I:Nat->Prop} {w:World} {k:Nat} (hv:Own 0 e R I w v xs) (hk:k<xs.length) {u:Value} (hu1:u.oneCell'=true) {y:α} (hu:R (fun b=>I b/\v.ownBlock≠some b) w u y) :
  ∃ g cap,v = .slice (some ⟨g,0,none⟩) xs.length cap/\(store ((⟨g,k,none⟩:Addr).add 0) u).run P w = .ok () (w.setCell ⟨g,k,none⟩ u)/\Own 0 e R I (w.setCell ⟨g,k,none⟩ u) v (xs.set k y)/\w.grownBy (w.setCell ⟨g,k,none⟩ u) (some g)/\v.ownBlock=some g:=by
 obtain ⟨us,hl,⟨hul,ho⟩,he⟩:=hv
 rcases ho with ⟨rfl,h0⟩|⟨g,cap,cur,rfl,hB,hg,hn,hm,hs,ht⟩
 ·omega
 ·rw [Nat.mul_one] at hs ht
  have hkc:k<cur.size:=by omega
  have hset:=setCell_eq_setRow w g k cur e (0,0) u hg
  have hc:w.cell? ⟨g,k,none⟩=some cur[k]:=by simp [World.cell?,hg,hkc]
  have hf:w.frozen? ⟨g,k,none⟩=false:=by simp [World.frozen?,hg]
  have hgr:w.grownBy (w.setRow g (cur.setIfInBounds k u)) (some g):=ZAM
  refine ⟨g,cap,rfl,?_,⟨us.set k u,by simp [hl],⟨by simp [hul],.inr ⟨g,cap,cur.setIfInBounds k u,by simp,hB,?_,by simpa using hn,hm,by simpa using hs,?_⟩⟩,?_⟩,by rw [hset];exact hgr,rfl⟩
  ·rw [show ((⟨g,k,none⟩:Addr).add 0)=⟨g,k,none⟩ from rfl,run_store P w _ u _ hu1,hc]
   simp [hf]
  ·rw [hset];exact setRow_heap w g cur _ e _ hg
  ·simp only [List.length_set,Nat.mul_one,Array.toList_setIfInBounds]
   rw [<- ht,List.take_set]
  ·intro j h1 h2
   simp only [List.length_set] at h1 h2
   rw [List.getElem_set,List.getElem_set,hset]
   by_cases hkj:k=j
   ·rw [if_pos hkj,if_pos hkj]
    exact ⟨hu1,Good.grown hu hgr (fun r hr hc=>hc.2 (by cases hr;rfl))⟩
   ·rw [if_neg hkj,if_neg hkj]
    exact ⟨(he j h1 h2).1,Good.grown (he j h1 h2).2 hgr (fun r hr hc=>hc.2 (by cases hr;rfl))⟩
theorem ZI4 {_gR:Good R} {p:Tmp} {x:Operand} {k:Nat} {y:α} (T':TyI P T 1 false) (hp0:OpD fr (.tmp p) (dX (ZD0 v k))) (hx:OpD fr x (dS R y)) (hs:(dS R y).Shape 1 false) (hk:k<xs.length)
  (h:WL P ops Q rest (ZA fr dst dA) (Zr v e R (xs.set k y)::hp)):WL P ops Q (⟨dst,.store T (.tmp p) x,ty,ps,af,none⟩::rest) fr (Zr v e R xs::hp):=by
 refine WL.of fun P0 B w0 w a hh hf=>?_
 have hok:=hh.ok (Zr v e R xs) (by simp)
 have hy:R (Imm P0 B (Zr v e R xs::hp)) w (a.eval x) y:=hx.ev hf
 obtain ⟨cs,k1,k0,k2,k3,k4⟩:=hs _ _ _ hy
 have h1:a.eval (.tmp p)=ZD0 v k:=hp0.ev hf
 have hone:(a.eval x).oneCell'=true:=by
  have:cs=[a.eval x]:=by simpa using k4
  subst this
  exact k2 _ (by simp)
 have hy':R (fun j=>(Imm P0 B (Zr v e R xs::hp) j/\j<w.heap.size)/\v.ownBlock≠some j) w (a.eval x) y :=
  Good.weak (Good.bound hy) fun j hj=>⟨hj,hj.1.2 (Zr v e R xs) (by simp)⟩
 obtain ⟨b,cap,hv,hst,hok',hgr,hob⟩:=ZT8 (P:=P) ((Zr v e R xs).bound hok) hk hone hy'
 have hrun:(execOp a.eval ⟨dst,.store T (.tmp p) x,ty,ps,af,none⟩).run P w = .ok .skip (w.setCell ⟨b,k,none⟩ (a.eval x)):=by
  have he:a.eval (.tmp p) = .pointer (some ⟨b,k,none⟩):=by rw [h1,hv];rfl
  unfold execOp
  have hsz:(sizeOf T).run P w = .ok 1 w:=by
   have h5:=T'.size
   cases hq:P.info? T with
   | none=>rw [hq] at h5;cases h5
   | some i =>
    rw [hq] at h5
    have:i.size=1:=by simpa using h5
    rw [<- this]
    rw [run_sizeOf w hq]
    simp [Program.cellsOf,hq]
  simp only [he,Instr.storeAt,Instr.sureAddr,storeVar,Sem.run_bind,hsz,Result.andThen_ok,Sem.run_pure]
  simp [ZB5 hone,storeCells,hst]
 refine wpList_plain rfl fun K hK=>?_
 unfold Oper.wp
 rw [hrun]
 have hgr':w.grownBy (w.setCell ⟨b,k,none⟩ (a.eval x)) (Zr v e R xs).blk:=by
  show w.grownBy _ v.ownBlock
  rw [hob];exact hgr
 exact hK _ _ (h.on (hh.write hgr' (.inl rfl) hok') (Fr.put (hf.mono fun _ _ hd=>ZY (o':=Zr v e R (xs.set k y)) hgr' (.inl rfl) hd) (d:=dA) trivial))
end
section
variable {P:Program} {f:FuncId} {ds:List Dat} {hp1:List HObj} {K K':Dat->List HObj->Prop}
theorem ZK8 {P0:Nat->Prop} {B:Nat} {w0 w:World}:∀ (junk hp:List HObj),Hp P0 B w0 (junk++hp) w->Hp P0 B w0 hp w
 | [],_,h=>h
 | _::junk,hp,h=>ZK8 junk hp (Hp.drop h)
theorem ZKK (h:CallC P f ds hp1 K) (hK:∀ d hp2,K d hp2->∃ junk hp3,hp2.Perm (junk++hp3)/\K' d hp3):CallC P f ds hp1 K':=⟨fun P0 B w0 hp vs W hh hl hv=>by
 refine Calls.mono (h.out P0 B w0 hp vs W hh hl hv) fun e W' ⟨v,d,hp2,he,hk,hh2,hd⟩=>?_
 obtain ⟨junk,hp3,hperm,hk3⟩:=hK d hp2 hk
 obtain ⟨h3,h4⟩:=hh2.perm (hperm.append_right hp)
 rw [List.append_assoc] at h3 h4
 refine ⟨v,d,hp3,he,hk3,ZK8 junk _ h3,d.weak hd fun k hk=>?_⟩
 have:=(h4 k).1 hk
 exact ⟨this.1,fun o ho=>this.2 o (List.mem_append.2 (.inr ho))⟩⟩
theorem ZNK {res:Dat} (h:CallC P f ds [] K) (hK:∀ d hp2,K d hp2->FinD hp2 d res):Fn P f ds res:=Fn.mk fun I w vs hl hv=>by
 refine Calls.mono (h.out (fun b=>I b/\b<w.heap.size) w.heap.size w [] vs w hp_enter hl fun i d hd=>d.weak (d.bound (hv i d hd)) fun k hk=>⟨.inl hk,(fun o ho=>by cases ho)⟩) fun e W' ⟨v,d,hp2,he,hk,hh2,hd⟩=>?_
 rw [List.append_nil] at hh2 hd
 exact ⟨v,he,hh2.below,res.weak ((hK d hp2 hk).out hh2 hd) fun k hk=>hk.elim (fun h=>.inl h.1) .inr⟩
end
end
section
open Go.RowKit

def ZRx (k:Nat) (out:Cx) (f:List Vx):Cx:=if f.length<k then out else (Zw k f).foldl ZFy out
theorem ZNk (c:Cx) (k:Nat):ZBB c k=c.foldl (ZRx k) []:=rfl
theorem ZNl {l:Cx} {k i:Nat} (h:i<l.length):ZBB (l.take (i+1)) k=ZRx k (ZBB (l.take i) k) l[i]:=by
 rw [ZNk,ZNk,ZZ h,List.foldl_append];rfl
theorem ZPn {k:Nat} {out:Cx} {f:List Vx} (h:f.length≤8):(ZRx k out f).length≤out.length+256:=by
 unfold ZRx
 split
 ·omega
 ·have h1:=ZGS (Zw k f) out
  have h2:=Nat.le_trans (ZCB k f) (Nat.pow_le_pow_right (by decide) h:2 ^ f.length≤2 ^ 8)
  omega
theorem ZLQ:∀ (l:Cx) (k i:Nat),(∀ f∈l,f.length≤8)->i≤l.length->(ZBB (l.take i) k).length≤256*i
 | l,k,0,_,_=>by simp [ZBB]
 | l,k,i+1,h,hi=>by
  rw [ZNl (by omega)]
  have h1:=ZPn (k:=k) (out:=ZBB (l.take i) k) (h _ (List.getElem_mem (show i<l.length by omega)))
  have h2:=ZLQ l k i h (by omega)
  omega
theorem ZVa (k:Nat):((k:Int)+1).tmod 2=(((k+1) % 2:Nat):Int):=by rw [Int.tmod_eq_emod_of_nonneg (by omega)];omega
def ZD1 (l:Cx):Nat->Int
 | 0=>0
 | k+1=>if (k+1) % 2=1 then ZD1 l k+(ZBB l (k+1)).length else ZD1 l k-(ZBB l (k+1)).length
def ZGw (l:Cx):Int × Int:=if ZAr l≠0 then (0,ZAr l) else if (List.range 8).any (fun k=>decide (4096<(ZBB l (k+1)).length))=true then (0,17) else (ZD1 l 8,0)
theorem ZOX (l:Cx) (h:∀ k,(ZBB l k).length≤2000000):∀ k,ZD1 l k≤2000000*k /\ -(2000000*(k:Int))≤ZD1 l k
 | 0=>by simp [ZD1]
 | k+1=>by
  have h1:=ZOX l h k
  have h2:=h (k+1)
  unfold ZD1
  split <;> omega
end
end Go.Proofs.YtekiljakcngcoaaGreatDoor
