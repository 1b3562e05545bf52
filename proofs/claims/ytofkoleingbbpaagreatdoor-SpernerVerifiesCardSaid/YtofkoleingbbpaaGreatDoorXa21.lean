/- Part 21: walks by contracts, and plain laws. -/
import Derived.Test.YtofkoleingbbpaaGreatDoorXa20
set_option linter.unusedVariables false
set_option linter.unusedSimpArgs false
set_option linter.unusedSectionVars false
set_option maxRecDepth 100000
set_option maxHeartbeats 64000000
namespace Go.Proofs.YtofkoleingbbpaaGreatDoor
section
open Go.RowKit
def ZCf (md:Region.Mode) (ops:Array Oper) (n:Nat):Bool :=
 (List.range ops.size).all fun t=>decide (t≤n) || (List.range ops.size).any fun s=>decide (n≤s) && Region.waitsFor md ops t s
theorem ZBo {md:Region.Mode} {ops:Array Oper} {n:Nat} {listed:Array Bool} (hs:Region.sinkB md ops n=true) (hc:ZCf md ops n=true) (hn:n<ops.size) (inv:HeadInv md ops n listed) :
  ∀(d i:Nat),n-i=d->i<n->listed.getD i true=false->∀t,n≤t->t∉Region.ready md ops listed:=by
 intro d;induction d using Nat.strongRecOn with
 | _ d ih =>
  intro i hd hi hun t ht hr;obtain⟨_,ot,hot,hall⟩:=mem_ready.1 hr;have htlt:t<ops.size:=(Array.getElem?_eq_some_iff.1 hot).1;by_cases htn:t=n
  ·subst htn;have h1:=List.all_eq_true.1 hs i (List.mem_range.2 hi);obtain⟨j,hj,hj2⟩:=List.any_eq_true.1 h1;simp only[Bool.and_eq_true,decide_eq_true_eq] at hj2;obtain⟨oj,hoj,e,he,hb,hon⟩:=Region.waitsFor_spec hj2.2;have hjle:j≤t:=by have:=List.mem_range.1 hj;omega
   by_cases hjt:j=t
   ·subst hjt;have:oj=ot:=Option.some.inj (hoj.symm.trans hot);subst this;have h2:=hall e he hb;rw[hon,getD_both hun] at h2;cases h2
   ·cases hl:listed.getD j false with
    | true =>
     have h2:=inv.closed j oj hoj hl e he hb;rw[hon,getD_both hun] at h2;cases h2
    | false =>
     have hjs:j<listed.size:=by rw[inv.size];omega
     exact ih (t-j) (by omega) j rfl (by omega) (getD_in hjs hl) t (Nat.le_refl _) hr
  ·have h1:=List.all_eq_true.1 hc t (List.mem_range.2 htlt);simp only[Bool.or_eq_true,decide_eq_true_eq] at h1;rcases h1 with h1|h1
   ·omega
   ·obtain⟨s,hsr,hsw⟩:=List.any_eq_true.1 h1;simp only[Bool.and_eq_true,decide_eq_true_eq] at hsw;obtain⟨o',ho',e,he,hb,hon⟩:=Region.waitsFor_spec hsw.2;have:o'=ot:=Option.some.inj (ho'.symm.trans hot);subst this;have h2:=hall e he hb;rw[hon,getD_both (inv.tail s hsw.1 (List.mem_range.1 hsr))] at h2;cases h2
section
variable {P:Program} {ops:Array Oper} {md:Region.Mode} {fr fr':List Dat} {hp:List HObj} {C:List HObj->Prop}
def sOpM (P:Program) (ops:Array Oper) (C:List HObj->Prop) (i:Nat) (K:List Dat->List HObj->Prop) (fr:List Dat) (hp:List HObj):Prop :=
 ∃o,ops[i]?=some o/\((∃d,(∀hp',C hp'->SYG P ops hp' o fr d)/\K (ZC fr o.dst d) hp) \/
  ∃(β:Type) (H:β->List HObj) (D:β->Dat),SW P ops hp H D o fr/\(∀x,C (H x))/\∀x,K (ZC fr o.dst (D x)) (H x))
def ZHY (P:Program) (md:Region.Mode) (ops:Array Oper) (C:List HObj->Prop) (n:Nat) (L:Array Bool->List Dat->List HObj->Prop):Nat->Array Bool->List Dat->List HObj->Prop
 | 0,listed,fr,hp=>L listed fr hp
 | f+1,listed,fr,hp =>
  Region.ready md ops listed≠[]/\∀i∈Region.ready md ops listed,i<n/\sOpM P ops C i (ZHY P md ops C n L f (listed.setIfInBounds i true)) fr hp
theorem ZCo {n g:Nat} {L:Array Bool->List Dat->List HObj->Prop} {Q':Exit->Act->World->Prop} {P0:Nat->Prop} {B:Nat} {w0:World}:∀(f:Nat) (listed:Array Bool) (fr:List Dat) (hp:List HObj) (a:Act) (w:World),C hp->Hp P0 B w0 hp w->Fr (Imm P0 B hp) w a fr ->
  (∀listed fr hp a w',Hp P0 B w0 hp w'->Fr (Imm P0 B hp) w' a fr->L listed fr hp->wpAny P md ops Q' g listed a w')->ZHY P md ops C n L f listed fr hp->wpAny P md ops Q' (f+g) listed a w
 | 0,listed,fr,hp,a,w,_,hh,hf,hL,h=>by rw[Nat.zero_add];exact hL _ _ _ _ _ hh hf h
 | f+1,listed,fr,hp,a,w,hc,hh,hf,hL,h=>by
  rw[show f+1+g=(f+g)+1 by omega];refine⟨fun h0=>absurd h0 h.1,fun i hi=>?_⟩;obtain⟨o,ho,h1⟩:=(h.2 i hi).2;unfold wpOp;simp only[ho];rcases h1 with ⟨d,hs,hk⟩|⟨β,H,D,hw,hC,hk⟩
  ·have:=(hs hp hc).step (Q:=Q') hh hf (K:=wpAny P md ops Q' (f+g) (listed.setIfInBounds i true)) fun a' w' e hf'=>ZCo f _ _ hp _ _ hc (hh.ext e) hf' hL hk;split
   ·rename_i hw;rw[if_pos hw] at this;exact .inl this
   ·rename_i hw;rw[if_neg hw] at this;exact this
  ·have hwant:Region.wanted o (yielded ops a.tmps)=true:=by simp[Region.wanted,hw.guard]
   rw[if_pos hwant];exact .inl (hw.out hh (hf.on _) _ _ fun x v w' hh' hrd hd=>ZCo f _ _ (H x) _ _ (hC x) hh' (Fr.put (hf.mono fun d u hu=>hrd d u hu) hd) hL (hk x))
theorem ZK4 {n i:Nat} {oi:Oper} {di:Dat} {L:Array Bool->List Dat->List HObj->Prop} (hi:ops[i]?=some oi)
  (hs:Region.sinkB md ops n=true) (hc:ZCf md ops n=true) (hn:n<ops.size) (hin:i<n)
  (hdone:∀listed a c,L listed a c->∀j∈Region.ready md ops listed,n≤j) :
  ∀(f:Nat) (listed:Array Bool) (fr:List Dat) (hp:List HObj),HeadInv md ops n listed ->
   (∀j oj,ops[j]?=some oj->j≠i->listed.getD j true=false->(∀e∈oj.after,Region.binds md e=true->e.on≠i)->oi.apart ops oj=true) ->
   i∈Region.ready md ops listed->(∀hp',C hp'->SYG P ops hp' oi fr di) ->
   ZHY P md ops C n L f (listed.setIfInBounds i true) (ZC fr oi.dst di) hp->ZHY P md ops C n L (f+1) listed fr hp:=by
 intro f;induction f with
 | zero =>
  intro listed fr hp inv _ hr hy H;have hun:=(mem_ready.1 hr).1;refine⟨fun h=>(by rw[h] at hr;cases hr),fun j hj=>?_⟩;have hjn:j<n:=by
   rcases Nat.lt_or_ge j n with h|h
   ·exact h
   ·exact absurd hj (ZBo hs hc hn inv _ i rfl hin hun j h)
  refine⟨hjn,?_⟩;by_cases hji:j=i
  ·subst hji;exact⟨oi,hi,.inl ⟨di,hy,H⟩⟩
  ·have:=hdone _ _ _ H j (ready_mono hj hji);omega
 | succ f ih =>
  intro listed fr hp inv hfree hr hy H;have hun:=(mem_ready.1 hr).1;refine⟨fun h=>(by rw[h] at hr;cases hr),fun j hj=>?_⟩;have hjn:j<n:=by
   rcases Nat.lt_or_ge j n with h|h
   ·exact h
   ·exact absurd hj (ZBo hs hc hn inv _ i rfl hin hun j h)
  refine⟨hjn,?_⟩;by_cases hji:j=i
  ·subst hji;exact⟨oi,hi,.inl ⟨di,hy,H⟩⟩
  ·obtain⟨oj',hoj',h1⟩:=(H.2 j (ready_mono hj hji)).2;obtain⟨hjun,oj,hoj,hall⟩:=mem_ready.1 hj;have hoo:oj=oj':=by rw[hoj] at hoj';simpa using hoj'
   subst hoo;have hnot:∀e∈oj.after,Region.binds md e=true->e.on≠i:=fun e he hb heq=>by
    have h1:=hall e he hb;rw[heq,getD_both hun] at h1;cases h1
   obtain⟨a1,a2,a3⟩:=Oper.apart_spec (hfree j oj hoj hji hjun hnot);have hfree':∀k ok,ops[k]?=some ok->k≠i->(listed.setIfInBounds j true).getD k true=false ->
     (∀e∈ok.after,Region.binds md e=true->e.on≠i)->oi.apart ops ok=true:=fun k ok hk hki hun hno=>by
    refine hfree k ok hk hki ?_ hno;by_cases hjk:j=k
    ·subst hjk;exact hjun
    ·rw[getD_set_ne true hjk] at hun;exact hun
   have key:∀(d:Dat) (hp':List HObj),ZHY P md ops C n L f ((listed.setIfInBounds i true).setIfInBounds j true) (ZC (ZC fr oi.dst di) oj.dst d) hp' ->
     ZHY P md ops C n L (f+1) (listed.setIfInBounds j true) (ZC fr oj.dst d) hp':=fun d hp' hk=>by
    refine ih (listed.setIfInBounds j true) (ZC fr oj.dst d) hp' (inv.set hj hjn) hfree' (ready_mono hr (Ne.symm hji)) (fun c hc=>(hy c hc).same (Z4 _ _ _) fun t ht=>ZAE fun e=>a3 t e ht) ?_;rw[Array.setIfInBounds_comm _ _ hji,<- ZDH fr di d a2];exact hk
   refine⟨oj,hoj,?_⟩;rcases h1 with ⟨d,hs',hk⟩|⟨β,H',D,hw,hC,hk⟩
   ·exact .inl ⟨d,fun c hc=>(hs' c hc).same (Z4 _ _ _).symm fun t ht=>(ZAE fun e=>a1 t e ht).symm,key _ _ hk⟩
   ·exact .inr ⟨β,H',D,hw.same (Z4 _ _ _).symm fun t ht=>(ZAE fun e=>a1 t e ht).symm,hC,fun x=>key _ _ (hk x)⟩
def ZKW (md:Region.Mode) (ops:Array Oper) (n:Nat):List (Nat × Bool)->Array Bool->Bool
 | [],listed=>(Region.ready md ops listed).all fun j=>decide (n≤j)
 | (i,false)::r,listed=>decide (i<n) && (Region.ready md ops listed).contains i && Region.free md ops listed i && ZKW md ops n r (listed.setIfInBounds i true)
 | (i,true)::r,listed=>decide (i<n) && decide (Region.ready md ops listed=[i]) && ZKW md ops n r (listed.setIfInBounds i true)
inductive WM (P:Program) (ops:Array Oper) (C:List HObj->Prop) (Q:List Dat->List HObj->Prop):List (Nat × Bool)->List Dat->List HObj->Prop
 | nil {fr:List Dat} {hp:List HObj}:Q fr hp->WM P ops C Q [] fr hp
 | read {i:Nat} {o:Oper} {r:List (Nat × Bool)} {fr:List Dat} {hp:List HObj} {d:Dat}:ops[i]?=some o->(∀hp',C hp'->SYG P ops hp' o fr d)->WM P ops C Q r (ZC fr o.dst d) hp->WM P ops C Q ((i,false)::r) fr hp
 | write {i:Nat} {o:Oper} {r:List (Nat × Bool)} {fr:List Dat} {hp:List HObj} {β:Type} {H:β->List HObj} {D:β->Dat}:ops[i]?=some o->SW P ops hp H D o fr->(∀x,C (H x))->(∀x,WM P ops C Q r (ZC fr o.dst (D x)) (H x))->WM P ops C Q ((i,true)::r) fr hp
theorem ZFu {n:Nat} {Q:List Dat->List HObj->Prop} (hs:Region.sinkB md ops n=true) (hc:ZCf md ops n=true) (hn:n<ops.size) :
  ∀(l:List (Nat × Bool)) (listed:Array Bool) (fr:List Dat) (hp:List HObj),HeadInv md ops n listed->ZKW md ops n l listed=true->WM P ops C Q l fr hp ->
  ZHY P md ops C n (fun listed' f p=>(∀j∈Region.ready md ops listed',n≤j)/\listed'=l.foldl (fun s p=>s.setIfInBounds p.1 true) listed/\Q f p) l.length listed fr hp
 | [],listed,fr,hp,_,hB,h=>by
  cases h;rename_i h;refine⟨fun j hj=>?_,rfl,h⟩;simp only[ZKW,List.all_eq_true,decide_eq_true_eq] at hB;exact hB j hj
 | (i,false)::r,listed,fr,hp,inv,hB,h=>by
  cases h;rename_i o d ho hy hk;simp only[ZKW,Bool.and_eq_true,decide_eq_true_eq] at hB;obtain⟨⟨⟨hin,hr⟩,hf⟩,hB'⟩:=hB;have hr':i∈Region.ready md ops listed:=by simpa using hr
  exact ZK4 ho hs hc hn hin (fun _ _ _ hL=>hL.1) r.length listed fr hp inv (Region.free_spec ho hf) hr' hy
   (ZFu hs hc hn r _ _ _ (inv.set hr' hin) hB' hk)
 | (i,true)::r,listed,fr,hp,inv,hB,h=>by
  simp only[ZKW,Bool.and_eq_true,decide_eq_true_eq] at hB;obtain⟨⟨hin,hr⟩,hB'⟩:=hB;have hr':i∈Region.ready md ops listed:=by rw[hr];simp
  cases h with
  | write ho hw hC hk =>
   refine⟨fun h0=>(by rw[hr] at h0;cases h0),fun j hj=>?_⟩;rw[hr] at hj;cases List.mem_singleton.1 hj;exact⟨hin,_,ho,.inr ⟨_,_,_,hw,hC,fun x=>ZFu hs hc hn r _ _ _ (inv.set hr' hin) hB' (hk x)⟩⟩
theorem WC.drawM {id:Nat} {l:List Oper} {Q:Z5} (C:List HObj->Prop) (n m:Nat) (ord:List (Nat × Bool)) (S:List Bool) (hm:P.follows .mixedOrders=true)
  (hB:(decide (n<l.toArray.size) && Region.sinkB .any l.toArray n && ZCf .any l.toArray n && ZKW .any l.toArray n ord (Array.replicate l.toArray.size false))=true) (hS:ord.foldl (fun s p=>s.setIfInBounds p.1 true) (Array.replicate l.toArray.size false)=S.toArray) (hlen:l.length=ord.length+m) (hC:C hp)
  (h:WM P l.toArray C (fun f p=>WA P l.toArray Q m S f p) ord fr hp):WC P Q (.region id l.toArray true) fr hp:=by
 refine WC.of fun P0 B w0 w a hh hf=>?_;simp only[Bool.and_eq_true,decide_eq_true_eq] at hB;obtain⟨⟨⟨hn,hs⟩,hc⟩,hord⟩:=hB;have inv0:HeadInv .any l.toArray n (Array.replicate l.toArray.size false) :=
  ⟨by simp,fun j oj _ hl=>(by rw[getD_replicate_false] at hl;cases hl),fun t _ ht=>getD_in (by simpa using ht) (getD_replicate_false _ _)⟩
 have HW:=ZFu hs hc hn ord _ fr hp inv0 hord h;have hx:Ext w { w with drawn:=w.drawn+1 }:=(Ext.refl w).drew;refine wp_region_any hm ?_;have:=ZCo (Q':=ZCr Q P0 B w0) (g:=m) _ _ _ hp _ _ hC (hh.ext hx) (hf.ext hx) (fun listed' fr' hp' a' w' hh' hf' hL=>by
  rw[hL.2.1,hS];exact hL.2.2.out _ _ _ _ _ hh' hf') HW
 rw[show l.toArray.size=ord.length+m by simpa using hlen];rw[show(l.toArray.size)=ord.length+m by simpa using hlen] at this;exact this
theorem WM.readL {l:List Oper} {Q:List Dat->List HObj->Prop} {i:Nat} {o:Oper} {r:List (Nat × Bool)} {d:Dat} (ho:l[i]?=some o) (h:∀hp',C hp'->SYG P l.toArray hp' o fr d) (k:WM P l.toArray C Q r (ZC fr o.dst d) hp):WM P l.toArray C Q ((i,false)::r) fr hp:=WM.read (by simpa using ho) h k
theorem ZBX {l:List Oper} {Q:List Dat->List HObj->Prop} {i:Nat} {o:Oper} {r:List (Nat × Bool)} {β:Type} {H:β->List HObj} {D:β->Dat} (ho:l[i]?=some o) (h:SW P l.toArray hp H D o fr) (hC:∀x,C (H x)) (k:∀x,WM P l.toArray C Q r (ZC fr o.dst (D x)) (H x)):WM P l.toArray C Q ((i,true)::r) fr hp:=WM.write (by simpa using ho) h hC k
theorem WM.id {Q:List Dat->List HObj->Prop} {r:List (Nat × Bool)} (h:WM P ops C Q r fr hp):WM P ops C Q r fr hp:=h
end
end
section
open Go.RowKit
abbrev hIt (b r n:Nat) (seen:Array Nat):HObj:=ZA2 r (.mapIter (some b) n seen n)
section
variable {P:Program} {w:World}
theorem ZFE {r:Nat} {a:Option Nat} {b:Nat} {c:Array Nat} {d:Nat} (h:w.heap[r]?=some (.mapIter a b c d)):(getObj r).run P w = .ok (.mapIter a b c d) w:=by simp[getObj,Sem.run,h]
theorem ZJB {r:Nat} {a:Option Nat} {b:Nat} {c:Array Nat} {d:Nat} (o':Obj) (h:w.heap[r]?=some (.mapIter a b c d)):(setObj r o').run P w = .ok () (w.putObj r o'):=by simp[setObj,Sem.run,h,World.putObj]
theorem ZKj {ty:TypeId} {b r since c0 clock:Nat} {seen:Array Nat} {es:Array MapEntry} (hb:w.heap[b]?=some (.map es clock)) (hr:w.heap[r]?=some (.mapIter (some b) since seen c0)) (hold:∀x∈es.toList,x.born<since) (hsc:since≤c0) :
  ((leftOf es seen).size=0/\(Instr.next (.pointer (some ⟨r,0,none⟩)) false ty).run P w = .ok (.tuple #[.bool false]) w) \/
  ∃e∈(leftOf es seen).toList,∃w1:World,(w1=w\/w1=w.drew)/\(Instr.next (.pointer (some ⟨r,0,none⟩)) false ty).run P w = .ok (.tuple #[.bool true,e.key,e.val]) (w1.putObj r (.mapIter (some b) since (seen.push e.born) clock)):=by
 simp only[Instr.next,Sem.run_bind,ZFE hr,MapKept.run_getObj_map hb,Result.andThen,next_test_false seen es since c0 hold hsc,Bool.false_eq_true,if_false];unfold leftOf;have hmem:∀x∈(Array.filter (fun e=>!seen.contains e.born) es).toList,x.born<since:=fun x hx=>hold x (by simp at hx ⊢;exact hx.1);generalize Array.filter (fun e=>!seen.contains e.born) es=L at hmem ⊢;have e1:L.filter (fun x=>decide (x.born<since))=L:=Array.filter_eq_self.2 (fun x hx=>by simpa using hmem x (by simpa using hx));have e2:L.filter (fun x=>decide (x.born ≥ since))=#[]:=by
  rw[Array.filter_eq_empty_iff];intro x hx;have:=hmem x (by simpa using hx);simp;omega
 simp only[e1,e2,Array.append_empty];by_cases h0:L.size=0
 ·left
  have:L=#[]:=Array.eq_empty_of_size_eq_zero h0;subst this;refine⟨rfl,?_⟩;simp[choose,Sem.run,Question.forced]
 ·right
  have hne:L.isEmpty=false:=by simp[Array.isEmpty,h0]
  simp only[hne,Bool.false_eq_true,if_false,Array.empty_append,Array.size_map];have hch:∃(j:Nat) (w1:World),j<L.size/\(w1=w\/w1=w.drew)/\(choose (Question.mapNext L.size)).run P w = .ok j w1:=by
   by_cases hf:L.size≤1
   ·exact⟨0,w,by omega,.inl rfl,by simp[choose,Sem.run,Question.forced,hf]⟩
   ·exact⟨_,w.drew,Nat.mod_lt _ (by omega),.inr rfl,by
     simp only[choose,Sem.run,Question.forced,decide_eq_true_eq,hf,if_false,Question.cut];rfl⟩
  obtain⟨j,w1,hj,hal,hrun⟩:=hch;refine⟨L[j],by simp,w1,hal,?_⟩;have hr1:w1.heap[r]?=some (.mapIter (some b) since seen c0):=by rcases hal with rfl|rfl <;> exact hr
  simp only[hrun,Array.getElem?_map,Array.getElem?_eq_getElem hj,Option.map_some,Sem.run_bind,ZJB _ hr1,Result.andThen];rfl
end
section
variable {P:Program} {ops:Array Oper} {hp:List HObj} {o:Oper} {fr:List Dat} {d d2:Dat} {Q:Z5} {rest:List Oper}
variable {dst:Option Tmp} {ty:TypeId} {ps:String} {af:Array Edge} {g:Option (Nat × Bool)} {t k e:TypeId} {z:Value} {K V:Type} {kv:K->Value} {ok:K->Prop} {vv:V->Value} {b r:Nat} {m:List (K × V)} {seen:Array Nat}
theorem ZOe {x:Operand} (T:MapT P t k e z) (hx:OpD fr x (dX (.map (some b)))) (hm:hM b kv vv m∈hp)
  (h:∀r,WL P ops Q rest (ZC fr dst (dX (.pointer (some ⟨r,0,none⟩)))) (hIt b r m.length #[]::hp)) :
  WL P ops Q (⟨dst,.range t x,ty,ps,af,none⟩::rest) fr hp:=by
 refine WL.of fun P0 B w0 w a hh hf=>?_;have h1:a.eval x=_:=hx.ev hf;have hb:w.heap[b]?=some (.map (Zb 0 (ZAV kv vv m)).toArray (ZAV kv vv m).length):=hh.ok _ hm;have hl:(ZAV kv vv m).length=m.length:=by simp[ZAV]
 rw[hl] at hb;have hrun:(execOp a.eval ⟨dst,.range t x,ty,ps,af,none⟩).run P w = .ok (.value (.pointer (some ⟨w.heap.size,0,none⟩))) (w.alloc (.mapIter (some b) m.length #[] m.length)):=by
  unfold execOp;simp only[h1,Sem.run_bind,run_range_map w t k e b _ _ T.under hb,Result.andThen_ok,Sem.run_pure]
 refine Zr rfl hrun ?_;have hx:=Ext.of_alloc w (.mapIter (some b) m.length #[] m.length);have hb:∀k,(hIt b w.heap.size m.length #[]).blk=some k->w.heap.size≤k/\k<(w.alloc (.mapIter (some b) m.length #[] m.length)).heap.size:=fun k hk=>by
  cases hk;exact⟨Nat.le_refl _,by simp⟩
 refine(h w.heap.size).on (hh.push hx hb (Zz w _)) ?_;exact Fr.put (hf.mono fun d _ hd=>ZAJ hx (fun k hk=>(hb k hk).1) hd) rfl
theorem ZRL {x:Operand} (hx:OpD fr x (dX (.pointer (some ⟨r,0,none⟩)))) (hm:hM b kv vv m∈hp)
  (h1:(∀j,j<m.length->j∈seen)->WL P ops Q rest (ZC fr dst (dT [dB false])) (hIt b r m.length seen::hp))
  (h2:∀(j:Nat) (hj:j<m.length),j∉seen->WL P ops Q rest (ZC fr dst (dT [dB true,dX (kv m[j].1),dX (vv m[j].2)])) (hIt b r m.length (seen.push j)::hp)) :
  WL P ops Q (⟨dst,.next x false,ty,ps,af,none⟩::rest) fr (hIt b r m.length seen::hp):=by
 refine WL.of fun P0 B w0 w a hh hf=>?_;have e1:a.eval x=_:=hx.ev hf;have hl:(ZAV kv vv m).length=m.length:=by simp[ZAV]
 have hb:w.heap[b]?=some (.map (Zb 0 (ZAV kv vv m)).toArray (ZAV kv vv m).length):=hh.ok (hM b kv vv m) (List.mem_cons_of_mem _ hm);rw[hl] at hb;have hr:w.heap[r]?=some (.mapIter (some b) m.length seen m.length):=hh.ok (hIt b r m.length seen) (by simp);have hlen:(Zb 0 (ZAV kv vv m)).length=m.length:=by rw[ZAF,hl]
 have hat:∀(i:Nat) (h:i<m.length),(Zb 0 (ZAV kv vv m))[i]'(by rw[hlen];exact h)=⟨kv m[i].1,vv m[i].2,i⟩:=fun i h=>by
  rw[ZAt _ _ _ (by rw[hl];exact h)];simp[ZAV]
 have hold:∀x∈((Zb 0 (ZAV kv vv m)).toArray).toList,x.born<m.length:=fun x hx=>by
  obtain⟨i,hi,rfl⟩:=List.getElem_of_mem (by simpa using hx:x∈Zb 0 (ZAV kv vv m));rw[hlen] at hi;rw[hat i hi];exact hi
 rcases ZKj (P:=P) (ty:=ty) hb hr hold (Nat.le_refl _) with ⟨hleft,hrun⟩|⟨en,hen,w1,hw1,hrun⟩
 ·have hr':(execOp a.eval ⟨dst,.next x false,ty,ps,af,none⟩).run P w = .ok (.value (.tuple #[.bool false])) w:=by
   unfold execOp;simp only[e1,Sem.run_bind,hrun,Result.andThen_ok,Sem.run_pure]
  refine Zr rfl hr' ?_;refine(h1 fun j hj=>?_).on hh (Fr.put hf ⟨[.bool false],rfl,rfl,fun i e x he hx=>by
   match i,he,hx with
   | 0,he,hx=>cases he;cases hx;rfl⟩)
  have h0:leftOf (Zb 0 (ZAV kv vv m)).toArray seen=#[]:=Array.eq_empty_of_size_eq_zero hleft;unfold leftOf at h0;rw[Array.filter_eq_empty_iff] at h0;have hmem:(Zb 0 (ZAV kv vv m))[j]'(by rw[hlen];exact hj)∈(Zb 0 (ZAV kv vv m)).toArray:=by simp
  have:=h0 _ hmem;rw[hat j hj] at this;simpa using this
 ·have hen':en∈Zb 0 (ZAV kv vv m)/\en.born∉seen:=by
   unfold leftOf at hen;simpa using hen
  obtain⟨hen1,hen2⟩:=hen';obtain⟨j,hj,rfl⟩:=List.getElem_of_mem hen1;rw[hlen] at hj;rw[hat j hj] at hrun hen2;have hr':(execOp a.eval ⟨dst,.next x false,ty,ps,af,none⟩).run P w = .ok (.value (.tuple #[.bool true,kv m[j].1,vv m[j].2])) (w1.putObj r (.mapIter (some b) m.length (seen.push j) m.length)):=by
   unfold execOp;simp only[e1,Sem.run_bind,hrun,Result.andThen_ok,Sem.run_pure]
  refine Zr rfl hr' ?_;have hx1:Ext w w1:=by
   rcases hw1 with rfl|rfl
   ·exact Ext.refl _
   ·exact(Ext.refl _).drew
  have hT:∀ {I:Nat->Prop} {w:World},(dT [dB true,dX (kv m[j].1),dX (vv m[j].2)]).rd I w (.tuple #[.bool true,kv m[j].1,vv m[j].2]):=⟨[.bool true,kv m[j].1,vv m[j].2],rfl,rfl,fun i e x he hx=>by
   match i,he,hx with
   | 0,he,hx=>cases he;cases hx;rfl
   | 1,he,hx=>cases he;cases hx;rfl
   | 2,he,hx=>cases he;cases hx;rfl⟩
  exact(h2 j hj hen2).on (Hp.putObj (hh.ext hx1)) (Fr.put ((hf.ext hx1).mono fun _ _ hd=>ZAs hd) hT)
theorem ZN5 {x:Operand} {j:Nat} (hx:OpD fr x (dX (.pointer (some ⟨r,0,none⟩)))) (hi:hIt b r m.length (seen.push j)∈hp) (hm:hM b kv vv m∈hp) (hj:j<m.length) :
  SY P ops hp ⟨dst,.entry x,ty,ps,af,g⟩ fr (dT [dX (kv m[j].1),dX (vv m[j].2)]):=ZAG fun {P0 B w0 w a} hh hon=>by
 have e1:a.eval x=_:=hx.get (by simp[Op.operands]) hon;have hl:(ZAV kv vv m).length=m.length:=by simp[ZAV]
 have hb:w.heap[b]?=some (.map (Zb 0 (ZAV kv vv m)).toArray (ZAV kv vv m).length):=hh.ok (hM b kv vv m) hm;rw[hl] at hb;have hr:w.heap[r]?=some (.mapIter (some b) m.length (seen.push j) m.length):=hh.ok (hIt b r m.length (seen.push j)) hi;have hlen:(Zb 0 (ZAV kv vv m)).length=m.length:=by rw[ZAF,hl]
 have hat:∀(i:Nat) (h:i<m.length),(Zb 0 (ZAV kv vv m))[i]'(by rw[hlen];exact h)=⟨kv m[i].1,vv m[i].2,i⟩:=fun i h=>by
  rw[ZAt _ _ _ (by rw[hl];exact h)];simp[ZAV]
 have hf:(Zb 0 (ZAV kv vv m)).toArray.find? (·.born == j)=some ⟨kv m[j].1,vv m[j].2,j⟩:=by
  rw[<- Array.find?_toList];rw[List.find?_eq_some_iff_getElem];refine⟨by simp,j,by simp;rw[hlen];exact hj,by simpa using hat j hj,fun i hi=>?_⟩;have:=hat i (by omega);simp[this];omega
 refine⟨.tuple #[kv m[j].1,vv m[j].2],w,?_,Ext.refl _,[kv m[j].1,vv m[j].2],rfl,rfl,fun i e x he hx=>?_⟩
 ·unfold execOp;have:(Instr.entry (.pointer (some ⟨r,0,none⟩))).run P w = .ok (.tuple #[kv m[j].1,vv m[j].2]) w:=by
   simp only[Instr.entry,Sem.run_bind,ZFE hr,MapKept.run_getObj_map hb,Result.andThen,Array.back?_push,bne_self_eq_false,Bool.false_eq_true,if_false,hf];rfl
  simp only[e1,Sem.run_bind,this,Result.andThen_ok,Sem.run_pure]
 ·match i,he,hx with
  | 0,he,hx=>cases he;cases hx;rfl
  | 1,he,hx=>cases he;cases hx;rfl
end
end
section
open Go.RowKit

abbrev vvI (n:Int):Value:=.int .i64 n
end
section
open Go.RowKit

abbrev vc:Vx:=(2,0)
abbrev vd:Vx:=(3,0)
end
section
open Go.RowKit

def ZFY:Nat->Nat->Nat
 | _,0=>1
 | 0,_+1=>0
 | n+1,k+1=>ZFY n k+ZFY n (k+1)
theorem ZCS:∀(s:List Vx) (k:Nat),(ZX k s).length=ZFY s.length k
 | s,0=>by rw[ZNq];cases s <;> rfl
 | [],k+1=>by rw[ZAk _ _ (by simp)];rfl
 | v::s,k+1=>by rw[ZNp,ZCS s k,ZCS s (k+1)];rfl
theorem ZLW {l:Cx} (h:ZBY l=true):l.length≤30:=by
 unfold ZBY at h;simp only[Bool.and_eq_true,decide_eq_true_eq] at h;exact h.1
theorem ZKm (l:Cx):Fn Tryz.prog 17 [dS Zh l,dS Zh l] (dB true):=by
 have:=ZQJ l l;rwa[decide_eq_true rfl] at this
end
section
theorem ZRr {l:Cx} {s:List Vx}:ZBm l s=true↔∃f∈l,Z8 s f=true:=by unfold ZBm;rw[List.any_eq_true]
theorem ZTX {l:Cx} {k B:Nat} (h:∀s∈l,(ZX k s).length≤B):(ZAl l k).length≤B*l.length:=by
 have h1:(ZAl l k).length≤(ZHc l k).length:=List.Nodup.length_le_of_subset (ZCZ l _).nodup fun x hx=>ZGL.2 hx;have h2:∀l:Cx,(∀s∈l,(ZX k s).length≤B)->(ZHc l k).length≤B*l.length:=by
  intro l;induction l with
  | nil=>intro _;simp[ZHc]
  | cons s l ih =>
   intro h;have h3:=ih fun x hx=>h x (List.mem_cons_of_mem _ hx);have h4:=h s (by simp);have h5:(ZHc (s::l) k).length=(ZX k s).length+(ZHc l k).length:=by unfold ZHc;simp
   rw[h5,List.length_cons,Nat.mul_add,Nat.mul_one];omega
 exact Nat.le_trans h1 (h2 l h)
theorem ZRd:∀n≤5,∀k≤5,ZFY n k≤10:=by decide
structure Gd (l:Cx):Prop where
 good:GoodX l
 few:l.length≤30
 five:∀s∈l,s.length≤5
theorem Gd.all {l:Cx} (h:Gd l) (k:Nat):(ZAl l k).length≤300:=by
 have:=ZTX (l:=l) (k:=k) (B:=10) fun s hs=>by
  have h5:=h.five s hs;by_cases hk:k≤5
  ·rw[ZCS];exact ZRd _ h5 _ hk
  ·rw[ZAk k s (by omega)];simp
 have:=h.few;omega
theorem Gd.zero {l:Cx} (h:Gd l):ZBB l=0:=ZAY.2 h.good
end
section
def orL (f:Vx->Int) (t:List Vx):Int:=t.foldl (fun m v=>ior m (f v)) 0
end
end Go.Proofs.YtofkoleingbbpaaGreatDoor
