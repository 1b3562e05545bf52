/- Part 3 of the proof. -/
import Derived.Test.YtofkoleingbbpaaGreatDoorZa26
import Derived.Test.YtofkoleingbbpaaGreatDoorZd2
set_option linter.all false
set_option maxRecDepth 100000
set_option maxHeartbeats 64000000
namespace Go.Proofs.YtofkoleingbbpaaGreatDoor
section
open Go.RowKit
section
variable {P:Program} {ops:Array Oper} {md:Region.Mode} {fr fr':List Dat} {hp:List HObj} {C:List HObj->Prop} {A:List Nat} {ws:List Nat}
def sOpK (P:Program) (ops:Array Oper) (C:List HObj->Prop) (A ws:List Nat) (i:Nat) (K:List Dat->List HObj->Prop) (fr:List Dat) (hp:List HObj):Prop :=
 ∃o,ops[i]?=some o/\((∃d,(∀hp',(i∈A->C hp')->SYG P ops hp' o fr d)/\K (ZC fr o.dst d) hp) \/
  (i∈ws/\∃(β:Type) (H:β->List HObj) (D:β->Dat),SW P ops hp H D o fr/\∀x,K (ZC fr o.dst (D x)) (H x)))
def ZHW (P:Program) (md:Region.Mode) (ops:Array Oper) (C:List HObj->Prop) (A ws:List Nat) (n:Nat) (L:Array Bool->List Dat->List HObj->Prop):Nat->Array Bool->List Dat->List HObj->Prop
 | 0,listed,fr,hp=>L listed fr hp
 | f+1,listed,fr,hp =>
  Region.ready md ops listed≠[]/\∀i∈Region.ready md ops listed,i<n/\sOpK P ops C A ws i (ZHW P md ops C A ws n L f (listed.setIfInBounds i true)) fr hp
theorem ZCn {n g:Nat} {L:Array Bool->List Dat->List HObj->Prop} {Q':Exit->Act->World->Prop} {P0:Nat->Prop} {B:Nat} {w0:World} (hW:ZSf md ops A ws=true) (hAn:∀k∈A,k<ops.size):∀(f:Nat) (listed:Array Bool) (fr:List Dat) (hp:List HObj) (a:Act) (w:World),HeadInv md ops n listed->((∃k∈A,listed.getD k false=false)->C hp)->Hp P0 B w0 hp w->Fr (Imm P0 B hp) w a fr ->
  (∀listed fr hp a w',Hp P0 B w0 hp w'->Fr (Imm P0 B hp) w' a fr->L listed fr hp->wpAny P md ops Q' g listed a w')->ZHW P md ops C A ws n L f listed fr hp->wpAny P md ops Q' (f+g) listed a w
 | 0,listed,fr,hp,a,w,_,_,hh,hf,hL,h=>by rw[Nat.zero_add];exact hL _ _ _ _ _ hh hf h
 | f+1,listed,fr,hp,a,w,inv,hc,hh,hf,hL,h=>by
  rw[show f+1+g=(f+g)+1 by omega];refine⟨fun h0=>absurd h0 h.1,fun i hi=>?_⟩;obtain⟨o,ho,h1⟩:=(h.2 i hi).2;have hin:=(h.2 i hi).1;have inv':=inv.set hi hin;unfold wpOp;simp only[ho];have hgrow:∀k,(listed.setIfInBounds i true).getD k false=false->listed.getD k false=false:=fun k hk=>by
   cases q:listed.getD k false with
   | false=>rfl
   | true=>rw[getD_set_true q] at hk;cases hk
  rcases h1 with ⟨d,hs,hk⟩|⟨hw0,β,H,D,hw,hk⟩
  ·have hci:i∈A->C hp:=fun q=>hc ⟨i,q,getD_both (mem_ready.1 hi).1⟩;have:=(hs hp hci).step (Q:=Q') hh hf (K:=wpAny P md ops Q' (f+g) (listed.setIfInBounds i true)) fun a' w' e hf'=>ZCn hW hAn f _ _ hp _ _ inv' (fun⟨k,q1,q2⟩=>hc ⟨k,q1,hgrow k q2⟩) (hh.ext e) hf' hL hk;split
   ·rename_i hw;rw[if_pos hw] at this;exact .inl this
   ·rename_i hw;rw[if_neg hw] at this;exact this
  ·have hwant:Region.wanted o (yielded ops a.tmps)=true:=by simp[Region.wanted,hw.guard]
   rw[if_pos hwant];refine .inl (hw.out hh (hf.on _) _ _ fun x v w' hh' hrd hd=>ZCn hW hAn f _ _ (H x) _ _ inv' (fun⟨k,q1,q2⟩=>?_) hh' (ZWN (hf.mono fun d u hu=>hrd d u hu) hd) hL (hk x));have h5:=List.all_eq_true.1 (List.all_eq_true.1 hW i hw0) k q1;have h6:=ZGu inv hi h5;rw[hgrow k q2] at h6;cases h6
theorem ZK3 {n i:Nat} {oi:Oper} {di:Dat} {L:Array Bool->List Dat->List HObj->Prop} (hi:ops[i]?=some oi)
  (hs:Region.sinkB md ops n=true) (hc:ZCf md ops n=true) (hn:n<ops.size) (hin:i<n)
  (hdone:∀listed a c,L listed a c->∀j∈Region.ready md ops listed,n≤j) :
  ∀(f:Nat) (listed:Array Bool) (fr:List Dat) (hp:List HObj),HeadInv md ops n listed ->
   (∀j oj,ops[j]?=some oj->j≠i->listed.getD j true=false->(∀e∈oj.after,Region.binds md e=true->e.on≠i)->oi.apart ops oj=true) ->
   i∈Region.ready md ops listed->(∀hp',(i∈A->C hp')->SYG P ops hp' oi fr di) ->
   ZHW P md ops C A ws n L f (listed.setIfInBounds i true) (ZC fr oi.dst di) hp->ZHW P md ops C A ws n L (f+1) listed fr hp:=by
 intro f;induction f with
 | zero =>
  intro listed fr hp inv _ hr hy H;have hun:=(mem_ready.1 hr).1;refine⟨fun h=>(by rw[h] at hr;cases hr),fun j hj=>?_⟩;have hjn:j<n:=by
   rcases Nat.lt_or_ge j n with h|h
   ·exact h
   ·exact absurd hj (ZBo hs hc hn inv _ i rfl hin hun j h)
  refine⟨hjn,?_⟩;by_cases hji:j=i
  ·subst hji;exact⟨oi,hi,.inl ⟨di,hy,H⟩⟩
  ·have:=hdone _ _ _ H j (ready_mono hj hji);omega
 | succ f ih =>
  intro listed fr hp inv hfree hr hy H;have hun:=(mem_ready.1 hr).1;refine⟨fun h=>(by rw[h] at hr;cases hr),fun j hj=>?_⟩;have hjn:j<n:=by
   rcases Nat.lt_or_ge j n with h|h
   ·exact h
   ·exact absurd hj (ZBo hs hc hn inv _ i rfl hin hun j h)
  refine⟨hjn,?_⟩;by_cases hji:j=i
  ·subst hji;exact⟨oi,hi,.inl ⟨di,hy,H⟩⟩
  ·obtain⟨oj',hoj',h1⟩:=(H.2 j (ready_mono hj hji)).2;obtain⟨hjun,oj,hoj,hall⟩:=mem_ready.1 hj;have hoo:oj=oj':=by rw[hoj] at hoj';simpa using hoj'
   subst hoo;have hnot:∀e∈oj.after,Region.binds md e=true->e.on≠i:=fun e he hb heq=>by
    have h1:=hall e he hb;rw[heq,getD_both hun] at h1;cases h1
   obtain⟨a1,a2,a3⟩:=Oper.apart_spec (hfree j oj hoj hji hjun hnot);have hfree':∀k ok,ops[k]?=some ok->k≠i->(listed.setIfInBounds j true).getD k true=false ->
     (∀e∈ok.after,Region.binds md e=true->e.on≠i)->oi.apart ops ok=true:=fun k ok hk hki hun hno=>by
    refine hfree k ok hk hki ?_ hno;by_cases hjk:j=k
    ·subst hjk;exact hjun
    ·rw[getD_set_ne true hjk] at hun;exact hun
   have key:∀(d:Dat) (hp':List HObj),ZHW P md ops C A ws n L f ((listed.setIfInBounds i true).setIfInBounds j true) (ZC (ZC fr oi.dst di) oj.dst d) hp' ->
     ZHW P md ops C A ws n L (f+1) (listed.setIfInBounds j true) (ZC fr oj.dst d) hp':=fun d hp' hk=>by
    refine ih (listed.setIfInBounds j true) (ZC fr oj.dst d) hp' (inv.set hj hjn) hfree' (ready_mono hr (Ne.symm hji)) (fun c hc=>(hy c hc).same (Z5 _ _ _) fun t ht=>ZAE fun e=>a3 t e ht) ?_;rw[Array.setIfInBounds_comm _ _ hji,<- ZDH fr di d a2];exact hk
   refine⟨oj,hoj,?_⟩;rcases h1 with ⟨d,hs',hk⟩|⟨hw0,β,H',D,hw,hk⟩
   ·exact .inl ⟨d,fun c hc=>(hs' c hc).same (Z5 _ _ _).symm fun t ht=>(ZAE fun e=>a1 t e ht).symm,key _ _ hk⟩
   ·exact .inr ⟨hw0,β,H',D,hw.same (Z5 _ _ _).symm fun t ht=>(ZAE fun e=>a1 t e ht).symm,fun x=>key _ _ (hk x)⟩
inductive WMk (P:Program) (ops:Array Oper) (C:List HObj->Prop) (A:List Nat) (Q:List Dat->List HObj->Prop):List (Nat × Bool)->List Dat->List HObj->Prop
 | nil {fr:List Dat} {hp:List HObj}:Q fr hp->WMk P ops C A Q [] fr hp
 | read {i:Nat} {o:Oper} {r:List (Nat × Bool)} {fr:List Dat} {hp:List HObj} {d:Dat}:ops[i]?=some o->(∀hp',(i∈A->C hp')->SYG P ops hp' o fr d)->WMk P ops C A Q r (ZC fr o.dst d) hp->WMk P ops C A Q ((i,false)::r) fr hp
 | write {i:Nat} {o:Oper} {r:List (Nat × Bool)} {fr:List Dat} {hp:List HObj} {β:Type} {H:β->List HObj} {D:β->Dat}:ops[i]?=some o->SW P ops hp H D o fr->(∀x,WMk P ops C A Q r (ZC fr o.dst (D x)) (H x))->WMk P ops C A Q ((i,true)::r) fr hp
theorem ZFt {n:Nat} {Q:List Dat->List HObj->Prop} (hs:Region.sinkB md ops n=true) (hc:ZCf md ops n=true) (hn:n<ops.size) :
  ∀(l:List (Nat × Bool)) (listed:Array Bool) (fr:List Dat) (hp:List HObj),(∀i,(i,true)∈l->i∈ws)->HeadInv md ops n listed->ZKW md ops n l listed=true->WMk P ops C A Q l fr hp ->
  ZHW P md ops C A ws n (fun listed' f p=>(∀j∈Region.ready md ops listed',n≤j)/\listed'=l.foldl (fun s p=>s.setIfInBounds p.1 true) listed/\Q f p) l.length listed fr hp
 | [],listed,fr,hp,_,_,hB,h=>by
  cases h;rename_i h;refine⟨fun j hj=>?_,rfl,h⟩;simp only[ZKW,List.all_eq_true,decide_eq_true_eq] at hB;exact hB j hj
 | (i,false)::r,listed,fr,hp,hws,inv,hB,h=>by
  cases h;rename_i o d ho hy hk;simp only[ZKW,Bool.and_eq_true,decide_eq_true_eq] at hB;obtain⟨⟨⟨hin,hr⟩,hf⟩,hB'⟩:=hB;have hr':i∈Region.ready md ops listed:=by simpa using hr
  exact ZK3 ho hs hc hn hin (fun _ _ _ hL=>hL.1) r.length listed fr hp inv (Region.free_spec ho hf) hr' hy
   (ZFt hs hc hn r _ _ _ (fun k hk=>hws k (by simp[hk])) (inv.set hr' hin) hB' hk)
 | (i,true)::r,listed,fr,hp,hws,inv,hB,h=>by
  simp only[ZKW,Bool.and_eq_true,decide_eq_true_eq] at hB;obtain⟨⟨hin,hr⟩,hB'⟩:=hB;have hr':i∈Region.ready md ops listed:=by rw[hr];simp
  cases h with
  | write ho hw hk =>
   refine⟨fun h0=>(by rw[hr] at h0;cases h0),fun j hj=>?_⟩;rw[hr] at hj;cases List.mem_singleton.1 hj;exact⟨hin,_,ho,.inr ⟨hws _ (by simp),_,_,_,hw,fun x=>ZFt hs hc hn r _ _ _ (fun k hk=>hws k (by simp[hk])) (inv.set hr' hin) hB' (hk x)⟩⟩
theorem WC.drawK {id:Nat} {l:List Oper} {Q:Z4} (C:List HObj->Prop) (n m:Nat) (A ws:List Nat) (ord:List (Nat × Bool)) (S:List Bool) (hm:P.follows .mixedOrders=true)
  (hB:(decide (n<l.toArray.size) && Region.sinkB .any l.toArray n && ZCf .any l.toArray n && ZKW .any l.toArray n ord (Array.replicate l.toArray.size false) && ZSf .any l.toArray A ws && A.all (fun k=>decide (k<l.toArray.size)) && ord.all (fun p=>!p.2 || ws.contains p.1))=true) (hS:ord.foldl (fun s p=>s.setIfInBounds p.1 true) (Array.replicate l.toArray.size false)=S.toArray) (hlen:l.length=ord.length+m) (hC:C hp)
  (h:WMk P l.toArray C A (fun f p=>WA P l.toArray Q m S f p) ord fr hp):WC P Q (.region id l.toArray true) fr hp:=by
 refine WC.of fun P0 B w0 w a hh hf=>?_;simp only[Bool.and_eq_true,decide_eq_true_eq] at hB;obtain⟨⟨⟨⟨⟨⟨hn,hs⟩,hc⟩,hord⟩,hW⟩,hAn⟩,hws⟩:=hB;have hAn':∀k∈A,k<l.toArray.size:=fun k hk=>of_decide_eq_true (List.all_eq_true.1 hAn k hk);have hws':∀i,(i,true)∈ord->i∈ws:=fun i hi=>by
  have:=List.all_eq_true.1 hws _ hi;simpa using this
 have inv0:HeadInv .any l.toArray n (Array.replicate l.toArray.size false) :=
  ⟨by simp,fun j oj _ hl=>(by rw[getD_replicate_false] at hl;cases hl),fun t _ ht=>getD_in (by simpa using ht) (getD_replicate_false _ _)⟩
 have HW:=ZFt (A:=A) (ws:=ws) hs hc hn ord _ fr hp hws' inv0 hord h;have hx:Ext w { w with drawn:=w.drawn+1 }:=(ZWS w).drew;refine wp_region_any hm ?_;have:=ZCn (Q':=ZCs Q P0 B w0) (g:=m) hW hAn' _ _ _ hp _ _ inv0 (fun _=>hC) (hh.ext hx) (hf.ext hx) (fun listed' fr' hp' a' w' hh' hf' hL=>by
  rw[hL.2.1,hS];exact hL.2.2.out _ _ _ _ _ hh' hf') HW
 rw[show l.toArray.size=ord.length+m by simpa using hlen];rw[show(l.toArray.size)=ord.length+m by simpa using hlen] at this;exact this
theorem ZOk {l:List Oper} {Q:List Dat->List HObj->Prop} {i:Nat} {o:Oper} {r:List (Nat × Bool)} {d:Dat} (ho:l[i]?=some o) (h:∀hp',SYG P l.toArray hp' o fr d) (k:WMk P l.toArray C A Q r (ZC fr o.dst d) hp):WMk P l.toArray C A Q ((i,false)::r) fr hp:=WMk.read (by simpa using ho) (fun hp' _=>h hp') k
theorem ZOj {l:List Oper} {Q:List Dat->List HObj->Prop} {i:Nat} {o:Oper} {r:List (Nat × Bool)} {d:Dat} (hi:A.contains i=true) (ho:l[i]?=some o) (h:∀hp',C hp'->SYG P l.toArray hp' o fr d) (k:WMk P l.toArray C A Q r (ZC fr o.dst d) hp):WMk P l.toArray C A Q ((i,false)::r) fr hp:=WMk.read (by simpa using ho) (fun hp' hc=>h hp' (hc (by simpa using hi))) k
theorem ZM7 {l:List Oper} {Q:List Dat->List HObj->Prop} {i:Nat} {o:Oper} {r:List (Nat × Bool)} {β:Type} {H:β->List HObj} {D:β->Dat} (ho:l[i]?=some o) (h:SW P l.toArray hp H D o fr) (k:∀x,WMk P l.toArray C A Q r (ZC fr o.dst (D x)) (H x)):WMk P l.toArray C A Q ((i,true)::r) fr hp:=WMk.write (by simpa using ho) h k
end
end
end Go.Proofs.YtofkoleingbbpaaGreatDoor
namespace Go.Proofs.YtofkoleingbbpaaGreatDoor.C34
section
variable {α:Type}
def ZQD [DecidableEq α] (ins:α->α->Bool) (U:List (Nat × α)) (f:α) (k:Nat):List Int :=
 plc 0 U fun u=>decide (u.1=k) && ins f u.2 || decide (u.1+1=k) && decide (f=u.2)
theorem ZE7 {off:Nat} {a:List α} {p q:α->Bool} (h:∀s∈a,p s=q s):plc off a p=plc off a q:=by
 unfold plc;congr 1;refine List.filter_congr fun j hj=>?_;have hj:=List.mem_range.1 hj;rw[List.getElem?_eq_getElem hj];exact h _ (List.getElem_mem hj)
theorem ZP3 {β:Type} (g:β->α) (off:Nat) (a:List β) (p:α->Bool):plc off (a.map g) p=plc off a (fun s=>p (g s)):=by
 unfold plc;rw[List.length_map];congr 1;refine List.filter_congr fun j hj=>?_;rw[List.getElem?_map];cases a[j]? <;> rfl
theorem ZLy {β:Type} (l:List β) (n:Nat):l.zipIdx n=l.zipIdx.map fun p=>(p.1,p.2+n):=by
 apply List.ext_getElem?;intro i;rw[List.getElem?_map,List.getElem?_zipIdx,List.getElem?_zipIdx];cases l[i]? <;> simp[Nat.add_comm]
theorem ZMm [DecidableEq α] (ins:α->α->Bool) (f:α) (k:Nat):∀(L:List (List α)) (n off:Nat),
  plc off ((L.zipIdx n).flatMap fun p=>p.1.map fun s=>(p.2,s)) (fun u=>decide (u.1=k) && ins f u.2 || decide (u.1+1=k) && decide (f=u.2)) =
   (if n<k/\k-1-n<L.length then plc (off+ZAj L (k-1-n)) (L.getD (k-1-n) []) (fun s=>decide (s=f)) else[]) ++
   (if n≤k/\k-n<L.length then plc (off+ZAj L (k-n)) (L.getD (k-n) []) (ins f) else[])
 | [],n,off=>by simp[plc]
 | lv::L,n,off=>by
  rw[List.zipIdx_cons,List.flatMap_cons,ZFk,List.length_map,ZMm ins f k L (n+1) (off+lv.length),ZP3];have ho:∀j,ZAj (lv::L) (j+1)=lv.length+ZAj L j:=fun j=>by simp[ZAj]
  have h0:ZAj (lv::L) 0=0:=rfl;rcases Nat.lt_trichotomy n k with h|h|h
  ·by_cases h1:n+1=k
   ·-- the level below
    subst h1;have e1:plc off lv (fun s=>decide (n=n+1) && ins f s || decide (n+1=n+1) && decide (f=s))=plc off lv (fun s=>decide (s=f)):=ZE7 fun s _=>by
     rw[decide_eq_false (show ¬ n=n+1 by omega),decide_eq_true (show n+1=n+1 from rfl)];simp[eq_comm]
    have eY:(if n<n+1/\n+1-1-n<(lv::L).length then plc (off+ZAj (lv::L) (n+1-1-n)) ((lv::L).getD (n+1-1-n) []) (fun s=>decide (s=f)) else[])=plc off lv (fun s=>decide (s=f)):=by
     rw[if_pos ⟨by omega,by simp only[List.length_cons];omega⟩,show n+1-1-n=0 by omega];simp[h0]
    have eZ:(if n≤n+1/\n+1-n<(lv::L).length then plc (off+ZAj (lv::L) (n+1-n)) ((lv::L).getD (n+1-n) []) (ins f) else[])=if n+1≤n+1/\n+1-(n+1)<L.length then plc (off+lv.length+ZAj L (n+1-(n+1))) (L.getD (n+1-(n+1)) []) (ins f) else[]:=by
     rw[show n+1-n=1 by omega,show n+1-(n+1)=0 by omega,ho 0,List.getD_cons_succ,List.length_cons,<- Nat.add_assoc];by_cases hL:0<L.length
     ·rw[if_pos ⟨by omega,by omega⟩,if_pos ⟨by omega,hL⟩]
     ·rw[if_neg (by omega),if_neg (by omega)]
    rw[eY,eZ];simp only at e1 ⊢;rw[e1,if_neg (by omega),List.nil_append]
   ·have e1:plc off lv (fun s=>decide (n=k) && ins f s || decide (n+1=k) && decide (f=s))=[]:=ZGU fun s _=>by
     rw[decide_eq_false (show ¬ n=k by omega),decide_eq_false h1];rfl
    simp only at e1 ⊢;rw[e1,List.nil_append];obtain⟨m,rfl⟩:∃m,k=n+2+m:=⟨k-n-2,by omega⟩;simp only[show n+2+m-1-(n+1)=m by omega,show n+2+m-1-n=m+1 by omega,show n+2+m-(n+1)=m+1 by omega,show n+2+m-n=m+2 by omega,List.getD_cons_succ,ho m,ho (m+1),List.length_cons,<- Nat.add_assoc];congr 1
    ·by_cases hL:m<L.length
     ·rw[if_pos ⟨by omega,hL⟩,if_pos ⟨by omega,by omega⟩]
     ·rw[if_neg (by omega),if_neg (by omega)]
    ·by_cases hL:m+1<L.length
     ·rw[if_pos ⟨by omega,hL⟩,if_pos ⟨by omega,by omega⟩]
     ·rw[if_neg (by omega),if_neg (by omega)]
  ·subst h;have e1:plc off lv (fun s=>decide (n=n) && ins f s || decide (n+1=n) && decide (f=s))=plc off lv (ins f):=ZE7 fun s _=>by
    rw[decide_eq_true rfl,decide_eq_false (show ¬ n+1=n by omega)];simp
   simp only at e1 ⊢;rw[e1,if_neg (by omega),if_neg (by omega),if_neg (by omega),if_pos ⟨by omega,by simp only[List.length_cons];omega⟩];simp[h0]
  ·have e1:plc off lv (fun s=>decide (n=k) && ins f s || decide (n+1=k) && decide (f=s))=[]:=ZGU fun s _=>by
    rw[decide_eq_false (show ¬ n=k by omega),decide_eq_false (show ¬ n+1=k by omega)];rfl
   simp only at e1 ⊢;rw[e1,if_neg (by omega),if_neg (by omega),if_neg (by omega),if_neg (by omega)];rfl
theorem ZSI [DecidableEq α] (ins:α->α->Bool) (L:List (List α)) (f:α) {k:Nat} (h1:1≤k) (h2:k<L.length):ZQD ins (ZEU L) f k=ZDy ins L f k:=by
 unfold ZQD ZEU ZDy;rw[ZMm,if_pos ⟨by omega,by omega⟩,if_pos ⟨by omega,by omega⟩];simp
theorem ZNS (L:List (List α)) (h:0<L.length):plc 0 (ZEU L) (fun u=>decide (u.1=0))=plc 0 (L.getD 0 []) fun _=>true:=by
 cases L with
 | nil=>cases h
 | cons lv L =>
  unfold ZEU;rw[List.zipIdx_cons,List.flatMap_cons,ZFk,ZP3,List.getD_cons_zero];have:plc (0+(lv.map fun s=>(0,s)).length) ((L.zipIdx (0+1)).flatMap fun p=>p.1.map fun s=>(p.2,s)) (fun u=>decide (u.1=0))=[]:=ZGU fun u hu=>by
   obtain⟨p,hp,hu⟩:=List.mem_flatMap.1 hu;obtain⟨s,_,rfl⟩:=List.mem_map.1 hu;have:=List.mem_zipIdx hp;exact decide_eq_false (by simp only;omega)
  rw[this,List.append_nil];exact ZE7 fun s _=>by simp
end
section

variable {α:Type}
def ZHk {β:Type} (x:List Int) (off:Nat) (U:List β) (q:β->Bool):List β:=(U.zipIdx.filter fun p=>decide (((off+p.2:Nat):Int)∈x) && q p.1).map (·.1)
theorem ZIB {β:Type} (x:List Int) (off:Nat) (A B:List β) (q:β->Bool):ZHk x off (A++B) q=ZHk x off A q++ZHk x (off+A.length) B q:=by
 unfold ZHk;rw[List.zipIdx_append,List.filter_append,List.map_append];congr 1;rw[ZLy,List.filter_map,List.map_map];have:((fun p:β × Nat=>decide (((off+p.2:Nat):Int)∈x) && q p.1) ∘ fun p:β × Nat=>(p.1,p.2+(0+A.length)))=fun p=>decide (((off+A.length+p.2:Nat):Int)∈x) && q p.1:=by
  funext p
  simp only[Function.comp_apply];rw[show off+(p.2+(0+A.length))=off+A.length+p.2 by omega]
 rw[this];rfl
theorem ZMr {β:Type} {x:List Int} {off:Nat} {U:List β} {q:β->Bool} (h:∀u∈U,q u=false):ZHk x off U q=[]:=by
 unfold ZHk;rw[List.map_eq_nil_iff,List.filter_eq_nil_iff];intro p hp;have:=List.mem_zipIdx hp;have hm:p.1∈U:=by rw[this.2.2];exact List.getElem_mem _
 rw[h _ hm];simp
theorem ZUP {β γ:Type} (g:γ->β) (x:List Int) (off:Nat) (U:List γ) (q:β->Bool):ZHk x off (U.map g) q=(ZHk x off U fun u=>q (g u)).map g:=by
 unfold ZHk;rw[List.zipIdx_map,List.filter_map,List.map_map,List.map_map];rfl
theorem ZQO {β:Type} {x:List Int} {off:Nat} {U:List β} {q r:β->Bool} (h:∀u∈U,q u=r u):ZHk x off U q=ZHk x off U r:=by
 unfold ZHk;congr 1;refine List.filter_congr fun p hp=>?_;have:=List.mem_zipIdx hp;have hm:p.1∈U:=by rw[this.2.2];exact List.getElem_mem _
 rw[h _ hm]
theorem ZMq (x:List Int) (k:Nat):∀(L:List (List α)) (n off:Nat),
  (ZHk x off ((L.zipIdx n).flatMap fun p=>p.1.map fun s=>(p.2,s)) (fun u=>decide (u.1=k))).map (·.2) =
   if n≤k/\k-n<L.length then ZHk x (off+ZAj L (k-n)) (L.getD (k-n) []) (fun _=>true) else[]
 | [],n,off=>by simp[ZHk]
 | lv::L,n,off=>by
  rw[List.zipIdx_cons,List.flatMap_cons,ZIB,List.map_append,List.length_map,ZMq x k L (n+1) (off+lv.length),ZUP,List.map_map];have ho:∀j,ZAj (lv::L) (j+1)=lv.length+ZAj L j:=fun j=>by simp[ZAj]
  have h0:ZAj (lv::L) 0=0:=rfl;have hid:((fun x:Nat × α=>x.2) ∘ fun s:α=>(n,s))=id:=rfl;simp only[hid,List.map_id];rcases Nat.lt_trichotomy n k with h|h|h
  ·rw[ZMr (fun s _=>decide_eq_false (show ¬ n=k by omega)),List.nil_append];obtain⟨m,rfl⟩:∃m,k=n+1+m:=⟨k-n-1,by omega⟩;simp only[show n+1+m-(n+1)=m by omega,show n+1+m-n=m+1 by omega,List.getD_cons_succ,ho m,List.length_cons,<- Nat.add_assoc];by_cases hL:m<L.length
   ·rw[if_pos ⟨by omega,hL⟩,if_pos ⟨by omega,by omega⟩]
   ·rw[if_neg (by omega),if_neg (by omega)]
  ·subst h;rw[if_neg (by omega),List.append_nil,if_pos ⟨Nat.le_refl _,by simp only[List.length_cons];omega⟩,Nat.sub_self,h0,Nat.add_zero,List.getD_cons_zero];exact ZQO fun s _=>decide_eq_true rfl
  ·rw[ZMr (fun s _=>decide_eq_false (show ¬ n=k by omega)),if_neg (by omega),if_neg (by omega)];rfl
def ZEP (U:List (Nat × α)) (k i:Nat):Option α:=match U[i]? with
 | none=>none
 | some u=>if u.1=k then some u.2 else none
theorem ZKa (x:List Int) (k:Nat):∀(U:List (Nat × α)) (off:Nat),((List.range U.length).filter fun i:Nat=>decide (((off+i:Nat):Int)∈x)).filterMap (ZEP U k)=(ZHk x off U (fun u=>decide (u.1=k))).map (·.2)
 | [],off=>by simp[ZHk]
 | u::U,off=>by
  have h1:(u::U)=[u]++U:=rfl;rw[List.length_cons,List.range_succ_eq_map,List.filter_cons,h1,ZIB,List.map_append,<- ZKa x k U (off+[u].length),<- h1];have e:((List.map Nat.succ (List.range U.length)).filter fun i:Nat=>decide (((off+i:Nat):Int)∈x)).filterMap (ZEP (u::U) k)=((List.range U.length).filter fun i:Nat=>decide (((off+[u].length+i:Nat):Int)∈x)).filterMap (ZEP U k):=by
   rw[List.filter_map,List.filterMap_map];have:((fun i:Nat=>decide (((off+i:Nat):Int)∈x)) ∘ Nat.succ)=fun i:Nat=>decide (((off+[u].length+i:Nat):Int)∈x):=by
    funext i
    simp only[Function.comp_apply,List.length_cons,List.length_nil];rw[show off+i.succ=off+(0+1)+i by omega]
   rw[this];rfl
  have hs:(ZHk x off [u] (fun u=>decide (u.1=k))).map (·.2)=if((off:Nat):Int)∈x then(ZEP (u::U) k 0).toList else[]:=by
   unfold ZHk ZEP;by_cases hx:((off:Nat):Int)∈x <;> by_cases hk:u.1=k <;> simp[hx,hk]
  rw[hs];by_cases hx:((off:Nat):Int)∈x
  ·rw[if_pos (by simpa using hx),if_pos hx,List.filterMap_cons,<- e];cases ZEP (u::U) k 0 <;> rfl
  ·rw[if_neg (by simpa using hx),if_neg hx,List.nil_append,e]
theorem ZR9 {U:List (Nat × α)} {x:List Int} (h:L05.Asc x) (hr:∀i∈x,0≤i/\i<(U.length:Int)) (k:Nat):(x.filterMap fun i=>ZEP U k i.toNat)=(ZHk x 0 U (fun u=>decide (u.1=k))).map (·.2):=by
 rw[<- ZKa]
 conv=>lhs;rw[asc_range h hr]
 rw[List.filterMap_map];have:((fun i:Int=>ZEP U k i.toNat) ∘ fun i:Nat=>(i:Int))=ZEP U k:=by funext i;simp
 rw[this];simp
theorem ZLQ (L:List (List α)) {x:List Int} (h:L05.Asc x) (hr:∀i∈x,0≤i/\i<((ZEU L).length:Int)):((List.range L.length).map fun k=>x.filterMap fun i=>ZEP (ZEU L) k i.toNat)=ZBL L x:=by
 unfold ZBL;apply List.ext_getElem?;intro k;rw[List.getElem?_map,List.getElem?_map,List.getElem?_zipIdx];by_cases hk:k<L.length
 ·rw[List.getElem?_range hk,List.getElem?_eq_getElem hk,Option.map_some,Option.map_some,Option.map_some,ZR9 h hr k];unfold ZEU;rw[ZMq,if_pos ⟨Nat.zero_le _,by simpa using hk⟩];simp only[Nat.sub_zero,Nat.zero_add,List.getD_eq_getElem?_getD,List.getElem?_eq_getElem hk,Option.getD_some,ZHk,Bool.and_true]
 ·rw[List.getElem?_eq_none (by rw[List.length_range];omega),List.getElem?_eq_none (by omega)];rfl
end
end Go.Proofs.YtofkoleingbbpaaGreatDoor.C34
namespace Go.Proofs.YtofkoleingbbpaaGreatDoor
section
open Go.RowKit
theorem ZUQ {a:Value}:(dS ZLD a).Shape 1 false:=fun I w v h=>Z0 (show a.oneCell'=true from(h:_/\_).2) I w v (show v=a from(h:_/\_).1)
theorem le_RX {a:Value}:(dS ZLD a).le (dX a):=fun _ _ _ h=>(h:_/\_).1
theorem le_XR {a:Value} (h:a.oneCell'=true):(dX a).le (dS ZLD a):=fun _ _ _ q=>⟨q,h⟩
end
section
open Go.RowKit
section
variable {P:Program} {ops:Array Oper} {hp:List HObj} {fr:List Dat} {d:Dat} {dst:Option Tmp} {ty:TypeId} {ps:String} {af:Array Edge} {T T1 T2 e:TypeId} {b k:Nat} {ds:List Dat}
theorem SW.storeR {α:Type} {R:Rel α} {_gR:Good R} {xs:List α} {v:Value} {p:Tmp} {x:Operand} {k:Nat} {y:α} (T':TyI P T 1 false) (hp0:OpD fr (.tmp p) (dX (ZBO v k))) (hx:OpD fr x (dS R y)) (hs:(dS R y).Shape 1 false) (hk:k<xs.length) :
  SW P ops (Zk v e R xs::hp) (fun _:Unit=>Zk v e R (xs.set k y)::hp) (fun _=>dX undef) ⟨dst,.store T (.tmp p) x,ty,ps,af,none⟩ fr:=⟨rfl,fun {P0 B w0 w a} hh hon KK QQ hkk=>by
 have hok:=hh.ok (Zk v e R xs) (by simp);have hy:R (Imm P0 B (Zk v e R xs::hp)) w (a.eval x) y:=hx.get (by simp[Op.operands]) hon;obtain⟨cs,k1,k0,k2,k3,k4⟩:=hs _ _ _ hy;have h1:a.eval (.tmp p)=ZBO v k:=hp0.get (by simp[Op.operands]) hon;have hone:(a.eval x).oneCell'=true:=by
  have:cs=[a.eval x]:=by simpa using k4
  subst this;exact k2 _ (by simp)
 have hy':R (fun j=>(Imm P0 B (Zk v e R xs::hp) j/\j<w.heap.size)/\v.ownBlock≠some j) w (a.eval x) y :=
  Good.weak (Good.bound hy) fun j hj=>⟨hj,hj.1.2 (Zk v e R xs) (by simp)⟩
 obtain⟨b,cap,hv,hst,hok',hgr,hob⟩:=ZT9 (P:=P) ((Zk v e R xs).bound hok) hk hone hy';have hrun:(execOp a.eval ⟨dst,.store T (.tmp p) x,ty,ps,af,none⟩).run P w = .ok .skip (w.setCell ⟨b,k,none⟩ (a.eval x)):=by
  have he:a.eval (.tmp p) = .pointer (some ⟨b,k,none⟩):=by rw[h1,hv];rfl
  unfold execOp;have hsz:(sizeOf T).run P w = .ok 1 w:=by
   have h5:=T'.size;cases hq:P.info? T with
   | none=>rw[hq] at h5;cases h5
   | some i =>
    rw[hq] at h5;have:i.size=1:=by simpa using h5
    rw[<- this];rw[run_sizeOf w hq];simp[Program.cellsOf,hq]
  simp only[he,Instr.storeAt,Instr.sureAddr,storeVar,Sem.run_bind,hsz,Result.andThen_ok,Sem.run_pure];simp[ZC6 hone,storeCells,hst]
 unfold Oper.wp;rw[hrun];have hgr':w.grownBy (w.setCell ⟨b,k,none⟩ (a.eval x)) (Zk v e R xs).blk:=by
  show w.grownBy _ v.ownBlock;rw[hob];exact hgr
 exact hkk () _ _ (hh.write hgr' (.inl rfl) hok') (fun d' u hd=>Zd (o':=Zk v e R (xs.set k y)) hgr' (.inl rfl) hd) rfl⟩
end
end
section
open Go.RowKit
open C34

variable {S:Prop}
def ZQr (l:Cx) (vs:List Vx) (A:List Int) (d:Int):List Cx × Bool × Int :=
 if ZCD l vs A≠0 then([],false,ZCD l vs A) else if d<0\/8≤d then([],false,2) else((ZFU l (Zc vs A) (d.toNat+1)).getD [],(ZFU l (Zc vs A) (d.toNat+1)).isSome,0)
theorem ZFT (l:Cx) (vs:List Vx) (A:List Int) (h:ZCD l vs A≠0):Fn Tryz.prog 57 [dS Cpx l,dS Lab (vs,A)] (dT [dX (.agg #[.slice none 0 0,.nilFunc]),dI (ZCD l vs A)]):=by
 have c1:=ZG1 l;have c2:=ZFW vs A;refine ZCv ZBx Tryz.func57 rfl rfl ?_
 -- @kinds sperner.begin
 simp only[Tryz.ntmps57,List.length_cons,List.length_nil,Nat.reduceAdd,Nat.reduceSub,List.replicate_succ,List.replicate_zero,List.cons_append,List.nil_append];unfold ZCD at h ⊢;by_cases h1:(ZBf l).2≠0
 ·rw[if_pos h1];((repeat' (first|(apply zV;exact yF;exact zQ)|refine ZVj ?_|refine ZA fun Kx hK=>?_|(refine hK _ _ ?_;clear hK)|refine ZVk ?_ |  (refine ZWF (dst:=some 4) ZFI (Zj rfl rfl) fun b4=>?_;dsimp only[ZC,z0,z1]) |  (refine ZR ZBx rfl (ZVh rfl) (Zj rfl rfl) ?_;dsimp only[ZC,z0,z1])|(apply zV;(focus ((first|(apply ZVm (c1) Tryz.call97;exact aD)|exact ZCJ|exact yG);all_goals infer_instance));exact zQ)|(apply ZG;exact oD;all_goals (intro h;try exact xD))|refine ZVs ?_|refine ZVz ?_));all_goals ((repeat clear hK);repeat clear Kx))
  all_goals try exact xO
  exact⟨trivial,⟨_,rfl,ZWR (ZWI _)⟩,_,rfl,ZWR (ZWI _)⟩
 have h1':(ZBf l).2=0:=Classical.byContradiction h1;rw[if_neg h1] at h ⊢;rw[h1'] at c1;by_cases h2:ZAU vs A≠0
 ·rw[if_pos h2];((repeat' (first|(apply zV;exact yF;exact zQ)|refine ZVj ?_|refine ZA fun Kx hK=>?_|(refine hK _ _ ?_;clear hK)|refine ZVk ?_ |  (refine ZWF (dst:=some 4) ZFI (Zj rfl rfl) fun b4=>?_;dsimp only[ZC,z0,z1]) |  (refine ZR ZBx rfl (ZVh rfl) (Zj rfl rfl) ?_;dsimp only[ZC,z0,z1])|(apply zV;(focus ((first|(apply ZVm (c1) Tryz.call97;exact aD)|(apply ZVm (c2) Tryz.call13;exact aD)|(apply ZVy;exact ZAz;exact ZVh rfl)|exact ZCJ|exact yG);all_goals infer_instance));exact zQ)|(apply ZG;exact oD;all_goals (intro h;try exact xD))|refine ZVr ?_|refine ZVs ?_|refine ZVz ?_));all_goals ((repeat clear hK);repeat clear Kx))
  all_goals try exact xO
  exact⟨trivial,⟨_,rfl,ZWR (ZWI _)⟩,_,rfl,ZWR (ZWI _)⟩
 have h2':ZAU vs A=0:=Classical.byContradiction h2;rw[if_neg h2] at h ⊢;rw[h2'] at c2;obtain⟨g1,g2,g3,g4,g5⟩:=ZAm h2';have c3:=ZGK l vs A g3 g2 (by omega);have h3:ZGJ l (Zc vs A)=false:=by
  cases e:ZGJ l (Zc vs A) with
  | false=>rfl
  | true=>rw[if_neg (by simp[e])] at h;exact absurd rfl h
 rw[if_pos h3];rw[h3] at c3;((repeat' (first|(apply zV;exact yF;exact zQ)|refine ZVj ?_|refine ZA fun Kx hK=>?_|(refine hK _ _ ?_;clear hK)|refine ZVk ?_ |  (refine ZWF (dst:=some 4) ZFI (Zj rfl rfl) fun b4=>?_;dsimp only[ZC,z0,z1]) |  (refine ZR ZBx rfl (ZVh rfl) (Zj rfl rfl) ?_;dsimp only[ZC,z0,z1])|(apply zV;(focus ((first|(apply ZVm (c1) Tryz.call97;exact aD)|(apply ZVm (c2) Tryz.call13;exact aD)|(apply ZVm (c3) Tryz.call44;exact aD)|(apply ZVy;exact ZAz;exact ZVh rfl)|exact ZCJ|exact yG);all_goals infer_instance));exact zQ)|(apply ZG;exact oD;all_goals (intro h;try exact xD))|(apply ZO;exact oD;all_goals (intro h;try exact xD))|refine ZVr ?_|refine ZVs ?_|refine ZVz ?_));all_goals ((repeat clear hK);repeat clear Kx))
 all_goals try exact xO
 exact⟨trivial,⟨_,rfl,ZWR (ZWI _)⟩,_,rfl,ZWR (ZWI _)⟩
theorem ZO0 (l:Cx) (vs:List Vx) (A:List Int) (d:Int) (h:ZCD l vs A≠0):Fn Tryz.prog 23 [dS Cpx l,dS Lab (vs,A),dI d] (dT [dS ZFw [],dB false,dI (ZCD l vs A)]):=by
 have cB:=ZFT l vs A h;(refine ZCu Tryz.func23 rfl rfl ?_;simp only[Tryz.ntmps23,List.length_cons,List.length_nil,Nat.reduceAdd,Nat.reduceSub,List.replicate_succ,List.replicate_zero,List.cons_append,List.nil_append])
 ((repeat' (first|(apply zV;exact yF;exact zQ)|refine ZVj ?_|refine ZA fun Kx hK=>?_|(refine hK _ _ ?_;clear hK)|refine ZVk ?_ |  (refine ZWF (dst:=some 9) ZFI (Zj rfl rfl) fun b9=>?_;dsimp only[ZC,z0,z1]) |  (refine ZR ZBx rfl (ZVh rfl) (Zj rfl rfl) ?_;dsimp only[ZC,z0,z1])|((first|apply ZF|apply WD.op);(focus (first|exact wN|(apply ZVt;exact wY;((first|(apply ZVy;exact ZAz;exact ZVh rfl)|(apply ZVm (cB) Tryz.call57;exact aD)|exact yG|fail);all_goals infer_instance))));dsimp only[ZC,z0,z1])|(apply ZG;exact oD;all_goals (intro h;try exact xD))|refine ZVs ?_|refine ZVz ?_));all_goals ((repeat clear hK);repeat clear Kx))
 all_goals try exact xO
 (refine⟨trivial,⟨_,rfl,?_⟩,⟨_,rfl,?_⟩,_,rfl,?_⟩ <;> exact fD)
theorem ZO1 (l:Cx) (vs:List Vx) (A:List Int) (d:Int) (h:ZCD l vs A=0) (hd:d<0\/8≤d):Fn Tryz.prog 23 [dS Cpx l,dS Lab (vs,A),dI d] (dT [dS ZFw [],dB false,dI 2]):=by
 have cB:=ZGG l vs A h;(refine ZCu Tryz.func23 rfl rfl ?_;simp only[Tryz.ntmps23,List.length_cons,List.length_nil,Nat.reduceAdd,Nat.reduceSub,List.replicate_succ,List.replicate_zero,List.cons_append,List.nil_append])
 by_cases h0:d<0
 ·((repeat' (first|(apply zV;exact yF;exact zQ)|refine ZVj ?_|refine ZA fun Kx hK=>?_|(refine hK _ _ ?_;clear hK)|refine ZVk ?_ |  (refine ZWF (dst:=some 9) ZFI (Zj rfl rfl) fun b9=>?_;dsimp only[ZC,z0,z1]) |  (refine ZR ZBx rfl (ZVh rfl) (ZAD (n:=2) (by decide) rfl) ?_;dsimp only[ZC,z0,z1])|((first|apply ZF|apply WD.op);(focus (first|exact wN|(apply ZVt;exact wY;((first|(apply ZVy;exact ZAz;exact ZVh rfl)|(apply ZVm (cB) Tryz.call57;exact aD)|exact yG|fail);all_goals infer_instance))));dsimp only[ZC,z0,z1])|((first|refine ZM rfl rfl rfl (fun h=>?_) (fun h=>?_)|refine ZL rfl rfl rfl (fun h=>?_) (fun h=>?_)|refine ZK rfl rfl rfl (fun h=>?_) (fun h=>?_)|refine Za rfl rfl rfl (fun h=>?_) (fun h=>?_)|refine ZX rfl rfl rfl (fun h=>?_) (fun h=>?_)|refine ZV rfl rfl rfl (fun h=>?_) (fun h=>?_)) <;> (first|(exfalso;first|omega|contradiction)|(dsimp only[z0,z1])))|(apply Zf;exact oD;(with_reducible rfl))|(apply ZG;exact oD;all_goals (intro h;try exact xD))|refine ZVr ?_|refine ZVs ?_|refine ZVz ?_));all_goals ((repeat clear hK);repeat clear Kx))
  all_goals try exact xO
  (refine⟨trivial,⟨_,rfl,?_⟩,⟨_,rfl,?_⟩,_,rfl,?_⟩ <;> exact fD)
 ·have h8:d ≥ 8:=by omega
  ((repeat' (first|(apply zV;exact yF;exact zQ)|refine ZVj ?_|refine ZA fun Kx hK=>?_|(refine hK _ _ ?_;clear hK)|refine ZVk ?_ |  (refine ZWF (dst:=some 9) ZFI (Zj rfl rfl) fun b9=>?_;dsimp only[ZC,z0,z1]) |  (refine ZR ZBx rfl (ZVh rfl) (ZAD (n:=2) (by decide) rfl) ?_;dsimp only[ZC,z0,z1])|((first|apply ZF|apply WD.op);(focus (first|exact wN|(apply ZVt;exact wY;((first|(apply ZVy;exact ZAz;exact ZVh rfl)|(apply ZVm (cB) Tryz.call57;exact aD)|exact yG|fail);all_goals infer_instance))));dsimp only[ZC,z0,z1])|((first|refine ZM rfl rfl rfl (fun h=>?_) (fun h=>?_)|refine ZL rfl rfl rfl (fun h=>?_) (fun h=>?_)|refine ZK rfl rfl rfl (fun h=>?_) (fun h=>?_)|refine Za rfl rfl rfl (fun h=>?_) (fun h=>?_)|refine ZX rfl rfl rfl (fun h=>?_) (fun h=>?_)|refine ZV rfl rfl rfl (fun h=>?_) (fun h=>?_)) <;> (first|(exfalso;first|omega|contradiction)|(dsimp only[z0,z1])))|(apply ZB;exact oD;all_goals (intro h;try exact xD))|(apply ZG;exact oD;all_goals (intro h;try exact xD))|refine ZVr ?_|refine ZVs ?_|refine ZVz ?_));all_goals ((repeat clear hK);repeat clear Kx))
  all_goals try exact xO
  (refine⟨trivial,⟨_,rfl,?_⟩,⟨_,rfl,?_⟩,_,rfl,?_⟩ <;> exact fD)
end
section
open Go.RowKit
theorem ZTM {ops:Array Oper} {hp:List HObj} {fr:List Dat} {dst:Option Tmp} {ty:TypeId} {ps:String} {af:Array Edge} {g:Option (Nat × Bool)} {T2:TypeId} {x y:Operand} {p:Bool} (hx:OpD fr x (dB p)) (hy:OpD fr y (dB p)):SY Tryz.prog ops hp ⟨dst,.binOp .eql 4 x y T2,ty,ps,af,g⟩ fr (dB true):=by
 have:=ZN9 (ops:=ops) (hp:=hp) (dst:=dst) (ty:=ty) (ps:=ps) (af:=af) (g:=g) (T2:=T2) hx hy eqBB;rwa[beq_self_eq_true] at this

end
section
open Go.RowKit
open C34
theorem ZDX (m k:Nat):ZQu (m:Int) ((k:Int)+1)=((m >>> (min (k+1) 64):Nat):Int):=by
 unfold ZQu;rw[show((k:Int)+1).toNat=k+1 by omega,Nat.shiftRight_eq_div_pow];rw[Int.fdiv_eq_ediv_of_nonneg _ (by exact Int.le_of_lt (Int.pow_pos (by decide)))];simp
theorem ZE5 {f:Vx->Int} (hf:∀v,0≤f v/\f v<256) (n:Nat):∀(t:List Vx) (m0:Nat),m0<256->∃m:Nat,m<256/\t.foldl (fun m v=>ior m (f v)) (m0:Int)=(m:Int)/\(m >>> n=0↔m0 >>> n=0/\∀v∈t,(f v).toNat >>> n=0)
 | [],m0,h=>⟨m0,h,rfl,by simp⟩
 | v::t,m0,h=>by
  obtain⟨x,hx⟩:∃x:Nat,f v=(x:Int):=⟨(f v).toNat,by have:=(hf v).1;omega⟩;have hx2:x<256:=by have:=(hf v).2;omega
  have hor:m0 ||| x<256:=Nat.or_lt_two_pow (n:=8) h hx2;obtain⟨m,h1,h2,h3⟩:=ZE5 hf n t (m0 ||| x) hor;refine⟨m,h1,?_,?_⟩
  ·rw[List.foldl_cons,hx,ZIq (by omega) (by omega)];exact h2
  ·rw[h3,Nat.shiftRight_or_distrib,Nat.or_eq_zero_iff];have hv:(f v).toNat=x:=by rw[hx];rfl
   simp only[List.mem_cons,forall_eq_or_imp,hv];exact and_assoc
theorem ZFi {f:Vx->Int} (hf:∀v,0≤f v/\f v<256) (s:List Vx) (k:Nat):decide (ZQu (orL f s) ((k:Int)+1)=0)=ZAg f (k:Int) s:=by
 obtain⟨m,_,h2,h3⟩:=ZE5 hf (min (k+1) 64) s 0 (by decide);have e:orL f s=(m:Int):=h2;rw[e,ZDX];unfold ZAg;have h4:(((m >>> min (k+1) 64:Nat):Int)=0)↔m >>> min (k+1) 64=0:=by omega
 have h5:decide (((m >>> min (k+1) 64:Nat):Int)=0)=decide (m >>> min (k+1) 64=0):=decide_eq_decide.2 h4;rw[h5];cases hq:s.any (ZHh f (k:Int)) with
 | true =>
  obtain⟨v,hv,ho⟩:=List.any_eq_true.1 hq;have:¬ m >>> min (k+1) 64=0:=fun h=>by
   have:=(h3.1 h).2 v hv;unfold ZHh at ho;have hx:f v=((f v).toNat:Int):=by have:=(hf v).1;omega
   rw[hx,ZDX,this] at ho;simp at ho
  simp[this]
 | false =>
  have:m >>> min (k+1) 64=0:=h3.2 ⟨by simp,fun v hv=>by
   have ho:=List.any_eq_false.1 hq v hv;unfold ZHh at ho;have hx:f v=((f v).toNat:Int):=by have:=(hf v).1;omega
   rw[hx,ZDX] at ho;simp only[Bool.not_eq_true,Bool.not_eq_false',decide_eq_true_eq] at ho;omega⟩
  simp[this]
end
section
open Go.RowKit
open C34

theorem ZEC:∀ {vs:List Vx} {A:List Int},(∀a∈A,1≤a/\a<256)->∀v,0≤Zc vs A v/\Zc vs A v<256
 | u::vs,a::A,h,v=>by
  unfold Zc;by_cases e:u=v
  ·rw[if_pos e];have:=h a (by simp);omega
  ·rw[if_neg e];exact ZEC (fun b hb=>h b (by simp[hb])) v
 | [],_,_,_=>by unfold Zc;omega
 | _::_,[],_,_=>by unfold Zc;omega
end
end Go.Proofs.YtofkoleingbbpaaGreatDoor
