/- Part 13 of the proof. -/
import Derived.Deep.OwnRows
import Derived.Test.YtofkoleingbbpaaGreatDoorZa12
set_option linter.all false
set_option maxRecDepth 100000
set_option maxHeartbeats 64000000
namespace Go.Proofs.YtofkoleingbbpaaGreatDoor
section
open Go.RowKit
def ZCf (md:Region.Mode) (ops:Array Oper) (n:Nat):Bool :=
 (List.range ops.size).all fun t=>decide (t≤n) || (List.range ops.size).any fun s=>decide (n≤s) && Region.waitsFor md ops t s
theorem ZBo {md:Region.Mode} {ops:Array Oper} {n:Nat} {listed:Array Bool} (hs:Region.sinkB md ops n=true) (hc:ZCf md ops n=true) (hn:n<ops.size) (inv:HeadInv md ops n listed) :
  ∀(d i:Nat),n-i=d->i<n->listed.getD i true=false->∀t,n≤t->t∉Region.ready md ops listed:=by
 intro d;induction d using Nat.strongRecOn with
 | _ d ih =>
  intro i hd hi hun t ht hr;obtain⟨_,ot,hot,hall⟩:=mem_ready.1 hr;have htlt:t<ops.size:=(Array.getElem?_eq_some_iff.1 hot).1;by_cases htn:t=n
  ·subst htn;have h1:=List.all_eq_true.1 hs i (List.mem_range.2 hi);obtain⟨j,hj,hj2⟩:=List.any_eq_true.1 h1;simp only[Bool.and_eq_true,decide_eq_true_eq] at hj2;obtain⟨oj,hoj,e,he,hb,hon⟩:=Region.waitsFor_spec hj2.2;have hjle:j≤t:=by have:=List.mem_range.1 hj;omega
   by_cases hjt:j=t
   ·subst hjt;have:oj=ot:=Option.some.inj (hoj.symm.trans hot);subst this;have h2:=hall e he hb;rw[hon,getD_both hun] at h2;cases h2
   ·cases hl:listed.getD j false with
    | true =>
     have h2:=inv.closed j oj hoj hl e he hb;rw[hon,getD_both hun] at h2;cases h2
    | false =>
     have hjs:j<listed.size:=by rw[inv.size];omega
     exact ih (t-j) (by omega) j rfl (by omega) (getD_in hjs hl) t (Nat.le_refl _) hr
  ·have h1:=List.all_eq_true.1 hc t (List.mem_range.2 htlt);simp only[Bool.or_eq_true,decide_eq_true_eq] at h1;rcases h1 with h1|h1
   ·omega
   ·obtain⟨s,hsr,hsw⟩:=List.any_eq_true.1 h1;simp only[Bool.and_eq_true,decide_eq_true_eq] at hsw;obtain⟨o',ho',e,he,hb,hon⟩:=Region.waitsFor_spec hsw.2;have:o'=ot:=Option.some.inj (ho'.symm.trans hot);subst this;have h2:=hall e he hb;rw[hon,getD_both (inv.tail s hsw.1 (List.mem_range.1 hsr))] at h2;cases h2
section
variable {P:Program} {ops:Array Oper} {md:Region.Mode} {fr fr':List Dat} {hp:List HObj} {C:List HObj->Prop}
def sOpM (P:Program) (ops:Array Oper) (C:List HObj->Prop) (i:Nat) (K:List Dat->List HObj->Prop) (fr:List Dat) (hp:List HObj):Prop :=
 ∃o,ops[i]?=some o/\((∃d,(∀hp',C hp'->SYG P ops hp' o fr d)/\K (ZC fr o.dst d) hp) \/
  ∃(β:Type) (H:β->List HObj) (D:β->Dat),SW P ops hp H D o fr/\(∀x,C (H x))/\∀x,K (ZC fr o.dst (D x)) (H x))
def ZHX (P:Program) (md:Region.Mode) (ops:Array Oper) (C:List HObj->Prop) (n:Nat) (L:Array Bool->List Dat->List HObj->Prop):Nat->Array Bool->List Dat->List HObj->Prop
 | 0,listed,fr,hp=>L listed fr hp
 | f+1,listed,fr,hp =>
  Region.ready md ops listed≠[]/\∀i∈Region.ready md ops listed,i<n/\sOpM P ops C i (ZHX P md ops C n L f (listed.setIfInBounds i true)) fr hp
theorem ZCo {n g:Nat} {L:Array Bool->List Dat->List HObj->Prop} {Q':Exit->Act->World->Prop} {P0:Nat->Prop} {B:Nat} {w0:World}:∀(f:Nat) (listed:Array Bool) (fr:List Dat) (hp:List HObj) (a:Act) (w:World),C hp->Hp P0 B w0 hp w->Fr (Imm P0 B hp) w a fr ->
  (∀listed fr hp a w',Hp P0 B w0 hp w'->Fr (Imm P0 B hp) w' a fr->L listed fr hp->wpAny P md ops Q' g listed a w')->ZHX P md ops C n L f listed fr hp->wpAny P md ops Q' (f+g) listed a w
 | 0,listed,fr,hp,a,w,_,hh,hf,hL,h=>by rw[Nat.zero_add];exact hL _ _ _ _ _ hh hf h
 | f+1,listed,fr,hp,a,w,hc,hh,hf,hL,h=>by
  rw[show f+1+g=(f+g)+1 by omega];refine⟨fun h0=>absurd h0 h.1,fun i hi=>?_⟩;obtain⟨o,ho,h1⟩:=(h.2 i hi).2;unfold wpOp;simp only[ho];rcases h1 with ⟨d,hs,hk⟩|⟨β,H,D,hw,hC,hk⟩
  ·have:=(hs hp hc).step (Q:=Q') hh hf (K:=wpAny P md ops Q' (f+g) (listed.setIfInBounds i true)) fun a' w' e hf'=>ZCo f _ _ hp _ _ hc (hh.ext e) hf' hL hk;split
   ·rename_i hw;rw[if_pos hw] at this;exact .inl this
   ·rename_i hw;rw[if_neg hw] at this;exact this
  ·have hwant:Region.wanted o (yielded ops a.tmps)=true:=by simp[Region.wanted,hw.guard]
   rw[if_pos hwant];exact .inl (hw.out hh (hf.on _) _ _ fun x v w' hh' hrd hd=>ZCo f _ _ (H x) _ _ (hC x) hh' (ZWN (hf.mono fun d u hu=>hrd d u hu) hd) hL (hk x))
theorem ZK4 {n i:Nat} {oi:Oper} {di:Dat} {L:Array Bool->List Dat->List HObj->Prop} (hi:ops[i]?=some oi)
  (hs:Region.sinkB md ops n=true) (hc:ZCf md ops n=true) (hn:n<ops.size) (hin:i<n)
  (hdone:∀listed a c,L listed a c->∀j∈Region.ready md ops listed,n≤j) :
  ∀(f:Nat) (listed:Array Bool) (fr:List Dat) (hp:List HObj),HeadInv md ops n listed ->
   (∀j oj,ops[j]?=some oj->j≠i->listed.getD j true=false->(∀e∈oj.after,Region.binds md e=true->e.on≠i)->oi.apart ops oj=true) ->
   i∈Region.ready md ops listed->(∀hp',C hp'->SYG P ops hp' oi fr di) ->
   ZHX P md ops C n L f (listed.setIfInBounds i true) (ZC fr oi.dst di) hp->ZHX P md ops C n L (f+1) listed fr hp:=by
 intro f;induction f with
 | zero =>
  intro listed fr hp inv _ hr hy H;have hun:=(mem_ready.1 hr).1;refine⟨fun h=>(by rw[h] at hr;cases hr),fun j hj=>?_⟩;have hjn:j<n:=by
   rcases Nat.lt_or_ge j n with h|h
   ·exact h
   ·exact absurd hj (ZBo hs hc hn inv _ i rfl hin hun j h)
  refine⟨hjn,?_⟩;by_cases hji:j=i
  ·subst hji;exact⟨oi,hi,.inl ⟨di,hy,H⟩⟩
  ·have:=hdone _ _ _ H j (ready_mono hj hji);omega
 | succ f ih =>
  intro listed fr hp inv hfree hr hy H;have hun:=(mem_ready.1 hr).1;refine⟨fun h=>(by rw[h] at hr;cases hr),fun j hj=>?_⟩;have hjn:j<n:=by
   rcases Nat.lt_or_ge j n with h|h
   ·exact h
   ·exact absurd hj (ZBo hs hc hn inv _ i rfl hin hun j h)
  refine⟨hjn,?_⟩;by_cases hji:j=i
  ·subst hji;exact⟨oi,hi,.inl ⟨di,hy,H⟩⟩
  ·obtain⟨oj',hoj',h1⟩:=(H.2 j (ready_mono hj hji)).2;obtain⟨hjun,oj,hoj,hall⟩:=mem_ready.1 hj;have hoo:oj=oj':=by rw[hoj] at hoj';simpa using hoj'
   subst hoo;have hnot:∀e∈oj.after,Region.binds md e=true->e.on≠i:=fun e he hb heq=>by
    have h1:=hall e he hb;rw[heq,getD_both hun] at h1;cases h1
   obtain⟨a1,a2,a3⟩:=Oper.apart_spec (hfree j oj hoj hji hjun hnot);have hfree':∀k ok,ops[k]?=some ok->k≠i->(listed.setIfInBounds j true).getD k true=false ->
     (∀e∈ok.after,Region.binds md e=true->e.on≠i)->oi.apart ops ok=true:=fun k ok hk hki hun hno=>by
    refine hfree k ok hk hki ?_ hno;by_cases hjk:j=k
    ·subst hjk;exact hjun
    ·rw[getD_set_ne true hjk] at hun;exact hun
   have key:∀(d:Dat) (hp':List HObj),ZHX P md ops C n L f ((listed.setIfInBounds i true).setIfInBounds j true) (ZC (ZC fr oi.dst di) oj.dst d) hp' ->
     ZHX P md ops C n L (f+1) (listed.setIfInBounds j true) (ZC fr oj.dst d) hp':=fun d hp' hk=>by
    refine ih (listed.setIfInBounds j true) (ZC fr oj.dst d) hp' (inv.set hj hjn) hfree' (ready_mono hr (Ne.symm hji)) (fun c hc=>(hy c hc).same (Z5 _ _ _) fun t ht=>ZAE fun e=>a3 t e ht) ?_;rw[Array.setIfInBounds_comm _ _ hji,<- ZDH fr di d a2];exact hk
   refine⟨oj,hoj,?_⟩;rcases h1 with ⟨d,hs',hk⟩|⟨β,H',D,hw,hC,hk⟩
   ·exact .inl ⟨d,fun c hc=>(hs' c hc).same (Z5 _ _ _).symm fun t ht=>(ZAE fun e=>a1 t e ht).symm,key _ _ hk⟩
   ·exact .inr ⟨β,H',D,hw.same (Z5 _ _ _).symm fun t ht=>(ZAE fun e=>a1 t e ht).symm,hC,fun x=>key _ _ (hk x)⟩
def ZKW (md:Region.Mode) (ops:Array Oper) (n:Nat):List (Nat × Bool)->Array Bool->Bool
 | [],listed=>(Region.ready md ops listed).all fun j=>decide (n≤j)
 | (i,false)::r,listed=>decide (i<n) && (Region.ready md ops listed).contains i && Region.free md ops listed i && ZKW md ops n r (listed.setIfInBounds i true)
 | (i,true)::r,listed=>decide (i<n) && decide (Region.ready md ops listed=[i]) && ZKW md ops n r (listed.setIfInBounds i true)
inductive WM (P:Program) (ops:Array Oper) (C:List HObj->Prop) (Q:List Dat->List HObj->Prop):List (Nat × Bool)->List Dat->List HObj->Prop
 | nil {fr:List Dat} {hp:List HObj}:Q fr hp->WM P ops C Q [] fr hp
 | read {i:Nat} {o:Oper} {r:List (Nat × Bool)} {fr:List Dat} {hp:List HObj} {d:Dat}:ops[i]?=some o->(∀hp',C hp'->SYG P ops hp' o fr d)->WM P ops C Q r (ZC fr o.dst d) hp->WM P ops C Q ((i,false)::r) fr hp
 | write {i:Nat} {o:Oper} {r:List (Nat × Bool)} {fr:List Dat} {hp:List HObj} {β:Type} {H:β->List HObj} {D:β->Dat}:ops[i]?=some o->SW P ops hp H D o fr->(∀x,C (H x))->(∀x,WM P ops C Q r (ZC fr o.dst (D x)) (H x))->WM P ops C Q ((i,true)::r) fr hp
theorem ZFu {n:Nat} {Q:List Dat->List HObj->Prop} (hs:Region.sinkB md ops n=true) (hc:ZCf md ops n=true) (hn:n<ops.size) :
  ∀(l:List (Nat × Bool)) (listed:Array Bool) (fr:List Dat) (hp:List HObj),HeadInv md ops n listed->ZKW md ops n l listed=true->WM P ops C Q l fr hp ->
  ZHX P md ops C n (fun listed' f p=>(∀j∈Region.ready md ops listed',n≤j)/\listed'=l.foldl (fun s p=>s.setIfInBounds p.1 true) listed/\Q f p) l.length listed fr hp
 | [],listed,fr,hp,_,hB,h=>by
  cases h;rename_i h;refine⟨fun j hj=>?_,rfl,h⟩;simp only[ZKW,List.all_eq_true,decide_eq_true_eq] at hB;exact hB j hj
 | (i,false)::r,listed,fr,hp,inv,hB,h=>by
  cases h;rename_i o d ho hy hk;simp only[ZKW,Bool.and_eq_true,decide_eq_true_eq] at hB;obtain⟨⟨⟨hin,hr⟩,hf⟩,hB'⟩:=hB;have hr':i∈Region.ready md ops listed:=by simpa using hr
  exact ZK4 ho hs hc hn hin (fun _ _ _ hL=>hL.1) r.length listed fr hp inv (Region.free_spec ho hf) hr' hy
   (ZFu hs hc hn r _ _ _ (inv.set hr' hin) hB' hk)
 | (i,true)::r,listed,fr,hp,inv,hB,h=>by
  simp only[ZKW,Bool.and_eq_true,decide_eq_true_eq] at hB;obtain⟨⟨hin,hr⟩,hB'⟩:=hB;have hr':i∈Region.ready md ops listed:=by rw[hr];simp
  cases h with
  | write ho hw hC hk =>
   refine⟨fun h0=>(by rw[hr] at h0;cases h0),fun j hj=>?_⟩;rw[hr] at hj;cases List.mem_singleton.1 hj;exact⟨hin,_,ho,.inr ⟨_,_,_,hw,hC,fun x=>ZFu hs hc hn r _ _ _ (inv.set hr' hin) hB' (hk x)⟩⟩
theorem WC.drawM {id:Nat} {l:List Oper} {Q:Z4} (C:List HObj->Prop) (n m:Nat) (ord:List (Nat × Bool)) (S:List Bool) (hm:P.follows .mixedOrders=true)
  (hB:(decide (n<l.toArray.size) && Region.sinkB .any l.toArray n && ZCf .any l.toArray n && ZKW .any l.toArray n ord (Array.replicate l.toArray.size false))=true) (hS:ord.foldl (fun s p=>s.setIfInBounds p.1 true) (Array.replicate l.toArray.size false)=S.toArray) (hlen:l.length=ord.length+m) (hC:C hp)
  (h:WM P l.toArray C (fun f p=>WA P l.toArray Q m S f p) ord fr hp):WC P Q (.region id l.toArray true) fr hp:=by
 refine WC.of fun P0 B w0 w a hh hf=>?_;simp only[Bool.and_eq_true,decide_eq_true_eq] at hB;obtain⟨⟨⟨hn,hs⟩,hc⟩,hord⟩:=hB;have inv0:HeadInv .any l.toArray n (Array.replicate l.toArray.size false) :=
  ⟨by simp,fun j oj _ hl=>(by rw[getD_replicate_false] at hl;cases hl),fun t _ ht=>getD_in (by simpa using ht) (getD_replicate_false _ _)⟩
 have HW:=ZFu hs hc hn ord _ fr hp inv0 hord h;have hx:Ext w { w with drawn:=w.drawn+1 }:=(ZWS w).drew;refine wp_region_any hm ?_;have:=ZCo (Q':=ZCs Q P0 B w0) (g:=m) _ _ _ hp _ _ hC (hh.ext hx) (hf.ext hx) (fun listed' fr' hp' a' w' hh' hf' hL=>by
  rw[hL.2.1,hS];exact hL.2.2.out _ _ _ _ _ hh' hf') HW
 rw[show l.toArray.size=ord.length+m by simpa using hlen];rw[show(l.toArray.size)=ord.length+m by simpa using hlen] at this;exact this
theorem WM.readL {l:List Oper} {Q:List Dat->List HObj->Prop} {i:Nat} {o:Oper} {r:List (Nat × Bool)} {d:Dat} (ho:l[i]?=some o) (h:∀hp',C hp'->SYG P l.toArray hp' o fr d) (k:WM P l.toArray C Q r (ZC fr o.dst d) hp):WM P l.toArray C Q ((i,false)::r) fr hp:=WM.read (by simpa using ho) h k
theorem ZBX {l:List Oper} {Q:List Dat->List HObj->Prop} {i:Nat} {o:Oper} {r:List (Nat × Bool)} {β:Type} {H:β->List HObj} {D:β->Dat} (ho:l[i]?=some o) (h:SW P l.toArray hp H D o fr) (hC:∀x,C (H x)) (k:∀x,WM P l.toArray C Q r (ZC fr o.dst (D x)) (H x)):WM P l.toArray C Q ((i,true)::r) fr hp:=WM.write (by simpa using ho) h hC k
theorem WM.id {Q:List Dat->List HObj->Prop} {r:List (Nat × Bool)} (h:WM P ops C Q r fr hp):WM P ops C Q r fr hp:=h
end
end
section
open Go.RowKit
abbrev hIt (b r n:Nat) (seen:Array Nat):HObj:=ZA2 r (.mapIter (some b) n seen n)
section
variable {P:Program} {w:World}
theorem ZFD {r:Nat} {a:Option Nat} {b:Nat} {c:Array Nat} {d:Nat} (h:w.heap[r]?=some (.mapIter a b c d)):(getObj r).run P w = .ok (.mapIter a b c d) w:=by simp[getObj,Sem.run,h]
theorem ZJB {r:Nat} {a:Option Nat} {b:Nat} {c:Array Nat} {d:Nat} (o':Obj) (h:w.heap[r]?=some (.mapIter a b c d)):(setObj r o').run P w = .ok () (w.putObj r o'):=by simp[setObj,Sem.run,h,World.putObj]
theorem ZKj {ty:TypeId} {b r since c0 clock:Nat} {seen:Array Nat} {es:Array MapEntry} (hb:w.heap[b]?=some (.map es clock)) (hr:w.heap[r]?=some (.mapIter (some b) since seen c0)) (hold:∀x∈es.toList,x.born<since) (hsc:since≤c0) :
  ((leftOf es seen).size=0/\(Instr.next (.pointer (some ⟨r,0,none⟩)) false ty).run P w = .ok (.tuple #[.bool false]) w) \/
  ∃e∈(leftOf es seen).toList,∃w1:World,(w1=w\/w1=w.drew)/\(Instr.next (.pointer (some ⟨r,0,none⟩)) false ty).run P w = .ok (.tuple #[.bool true,e.key,e.val]) (w1.putObj r (.mapIter (some b) since (seen.push e.born) clock)):=by
 simp only[Instr.next,Sem.run_bind,ZFD hr,MapKept.run_getObj_map hb,Result.andThen,next_test_false seen es since c0 hold hsc,Bool.false_eq_true,if_false];unfold leftOf;have hmem:∀x∈(Array.filter (fun e=>!seen.contains e.born) es).toList,x.born<since:=fun x hx=>hold x (by simp at hx ⊢;exact hx.1);generalize Array.filter (fun e=>!seen.contains e.born) es=L at hmem ⊢;have e1:L.filter (fun x=>decide (x.born<since))=L:=Array.filter_eq_self.2 (fun x hx=>by simpa using hmem x (by simpa using hx));have e2:L.filter (fun x=>decide (x.born ≥ since))=#[]:=by
  rw[Array.filter_eq_empty_iff];intro x hx;have:=hmem x (by simpa using hx);simp;omega
 simp only[e1,e2,Array.append_empty];by_cases h0:L.size=0
 ·left
  have:L=#[]:=Array.eq_empty_of_size_eq_zero h0;subst this;refine⟨rfl,?_⟩;simp[choose,Sem.run,Question.forced]
 ·right
  have hne:L.isEmpty=false:=by simp[Array.isEmpty,h0]
  simp only[hne,Bool.false_eq_true,if_false,Array.empty_append,Array.size_map];have hch:∃(j:Nat) (w1:World),j<L.size/\(w1=w\/w1=w.drew)/\(choose (Question.mapNext L.size)).run P w = .ok j w1:=by
   by_cases hf:L.size≤1
   ·exact⟨0,w,by omega,.inl rfl,by simp[choose,Sem.run,Question.forced,hf]⟩
   ·exact⟨_,w.drew,Nat.mod_lt _ (by omega),.inr rfl,by
     simp only[choose,Sem.run,Question.forced,decide_eq_true_eq,hf,if_false,Question.cut];rfl⟩
  obtain⟨j,w1,hj,hal,hrun⟩:=hch;refine⟨L[j],by simp,w1,hal,?_⟩;have hr1:w1.heap[r]?=some (.mapIter (some b) since seen c0):=by rcases hal with rfl|rfl <;> exact hr
  simp only[hrun,Array.getElem?_map,Array.getElem?_eq_getElem hj,Option.map_some,Sem.run_bind,ZJB _ hr1,Result.andThen];rfl
end
section
variable {P:Program} {ops:Array Oper} {hp:List HObj} {o:Oper} {fr:List Dat} {d d2:Dat} {Q:Z4} {rest:List Oper}
variable {dst:Option Tmp} {ty:TypeId} {ps:String} {af:Array Edge} {g:Option (Nat × Bool)} {t k e:TypeId} {z:Value} {K V:Type} {kv:K->Value} {ok:K->Prop} {vv:V->Value} {b r:Nat} {m:List (K × V)} {seen:Array Nat}
theorem ZOg {x:Operand} (T:MapT P t k e z) (hx:OpD fr x (dX (.map (some b)))) (hm:hM b kv vv m∈hp)
  (h:∀r,WL P ops Q rest (ZC fr dst (dX (.pointer (some ⟨r,0,none⟩)))) (hIt b r m.length #[]::hp)) :
  WL P ops Q (⟨dst,.range t x,ty,ps,af,none⟩::rest) fr hp:=by
 refine WL.of fun P0 B w0 w a hh hf=>?_;have h1:a.eval x=_:=hx.ev hf;have hb:w.heap[b]?=some (.map (Zb 0 (ZAT kv vv m)).toArray (ZAT kv vv m).length):=hh.ok _ hm;have hl:(ZAT kv vv m).length=m.length:=by simp[ZAT]
 rw[hl] at hb;have hrun:(execOp a.eval ⟨dst,.range t x,ty,ps,af,none⟩).run P w = .ok (.value (.pointer (some ⟨w.heap.size,0,none⟩))) (w.alloc (.mapIter (some b) m.length #[] m.length)):=by
  unfold execOp;simp only[h1,Sem.run_bind,run_range_map w t k e b _ _ T.under hb,Result.andThen_ok,Sem.run_pure]
 refine Zo rfl hrun ?_;have hx:=ZWU w (.mapIter (some b) m.length #[] m.length);have hb:∀k,(hIt b w.heap.size m.length #[]).blk=some k->w.heap.size≤k/\k<(w.alloc (.mapIter (some b) m.length #[] m.length)).heap.size:=fun k hk=>by
  cases hk;exact⟨Nat.le_refl _,by simp⟩
 refine(h w.heap.size).on (hh.push hx hb (Zw w _)) ?_;exact ZWN (hf.mono fun d _ hd=>ZAJ hx (fun k hk=>(hb k hk).1) hd) rfl
theorem ZRM {x:Operand} (hx:OpD fr x (dX (.pointer (some ⟨r,0,none⟩)))) (hm:hM b kv vv m∈hp)
  (h1:(∀j,j<m.length->j∈seen)->WL P ops Q rest (ZC fr dst (dT [dB false])) (hIt b r m.length seen::hp))
  (h2:∀(j:Nat) (hj:j<m.length),j∉seen->WL P ops Q rest (ZC fr dst (dT [dB true,dX (kv m[j].1),dX (vv m[j].2)])) (hIt b r m.length (seen.push j)::hp)) :
  WL P ops Q (⟨dst,.next x false,ty,ps,af,none⟩::rest) fr (hIt b r m.length seen::hp):=by
 refine WL.of fun P0 B w0 w a hh hf=>?_;have e1:a.eval x=_:=hx.ev hf;have hl:(ZAT kv vv m).length=m.length:=by simp[ZAT]
 have hb:w.heap[b]?=some (.map (Zb 0 (ZAT kv vv m)).toArray (ZAT kv vv m).length):=hh.ok (hM b kv vv m) (List.mem_cons_of_mem _ hm);rw[hl] at hb;have hr:w.heap[r]?=some (.mapIter (some b) m.length seen m.length):=hh.ok (hIt b r m.length seen) (by simp);have hlen:(Zb 0 (ZAT kv vv m)).length=m.length:=by rw[ZAF,hl]
 have hat:∀(i:Nat) (h:i<m.length),(Zb 0 (ZAT kv vv m))[i]'(by rw[hlen];exact h)=⟨kv m[i].1,vv m[i].2,i⟩:=fun i h=>by
  rw[ZAs _ _ _ (by rw[hl];exact h)];simp[ZAT]
 have hold:∀x∈((Zb 0 (ZAT kv vv m)).toArray).toList,x.born<m.length:=fun x hx=>by
  obtain⟨i,hi,rfl⟩:=List.getElem_of_mem (by simpa using hx:x∈Zb 0 (ZAT kv vv m));rw[hlen] at hi;rw[hat i hi];exact hi
 rcases ZKj (P:=P) (ty:=ty) hb hr hold (Nat.le_refl _) with ⟨hleft,hrun⟩|⟨en,hen,w1,hw1,hrun⟩
 ·have hr':(execOp a.eval ⟨dst,.next x false,ty,ps,af,none⟩).run P w = .ok (.value (.tuple #[.bool false])) w:=by
   unfold execOp;simp only[e1,Sem.run_bind,hrun,Result.andThen_ok,Sem.run_pure]
  refine Zo rfl hr' ?_;refine(h1 fun j hj=>?_).on hh (ZWN hf ⟨[.bool false],rfl,rfl,fun i e x he hx=>by
   match i,he,hx with
   | 0,he,hx=>cases he;cases hx;rfl⟩)
  have h0:leftOf (Zb 0 (ZAT kv vv m)).toArray seen=#[]:=Array.eq_empty_of_size_eq_zero hleft;unfold leftOf at h0;rw[Array.filter_eq_empty_iff] at h0;have hmem:(Zb 0 (ZAT kv vv m))[j]'(by rw[hlen];exact hj)∈(Zb 0 (ZAT kv vv m)).toArray:=by simp
  have:=h0 _ hmem;rw[hat j hj] at this;simpa using this
 ·have hen':en∈Zb 0 (ZAT kv vv m)/\en.born∉seen:=by
   unfold leftOf at hen;simpa using hen
  obtain⟨hen1,hen2⟩:=hen';obtain⟨j,hj,rfl⟩:=List.getElem_of_mem hen1;rw[hlen] at hj;rw[hat j hj] at hrun hen2;have hr':(execOp a.eval ⟨dst,.next x false,ty,ps,af,none⟩).run P w = .ok (.value (.tuple #[.bool true,kv m[j].1,vv m[j].2])) (w1.putObj r (.mapIter (some b) m.length (seen.push j) m.length)):=by
   unfold execOp;simp only[e1,Sem.run_bind,hrun,Result.andThen_ok,Sem.run_pure]
  refine Zo rfl hr' ?_;have hx1:Ext w w1:=by
   rcases hw1 with rfl|rfl
   ·exact ZWS _
   ·exact(ZWS _).drew
  have hT:∀ {I:Nat->Prop} {w:World},(dT [dB true,dX (kv m[j].1),dX (vv m[j].2)]).rd I w (.tuple #[.bool true,kv m[j].1,vv m[j].2]):=⟨[.bool true,kv m[j].1,vv m[j].2],rfl,rfl,fun i e x he hx=>by
   match i,he,hx with
   | 0,he,hx=>cases he;cases hx;rfl
   | 1,he,hx=>cases he;cases hx;rfl
   | 2,he,hx=>cases he;cases hx;rfl⟩
  exact(h2 j hj hen2).on (ZWl (hh.ext hx1)) (ZWN ((hf.ext hx1).mono fun _ _ hd=>ZAq hd) hT)
theorem ZN7 {x:Operand} {j:Nat} (hx:OpD fr x (dX (.pointer (some ⟨r,0,none⟩)))) (hi:hIt b r m.length (seen.push j)∈hp) (hm:hM b kv vv m∈hp) (hj:j<m.length) :
  SY P ops hp ⟨dst,.entry x,ty,ps,af,g⟩ fr (dT [dX (kv m[j].1),dX (vv m[j].2)]):=ZAG fun {P0 B w0 w a} hh hon=>by
 have e1:a.eval x=_:=hx.get (by simp[Op.operands]) hon;have hl:(ZAT kv vv m).length=m.length:=by simp[ZAT]
 have hb:w.heap[b]?=some (.map (Zb 0 (ZAT kv vv m)).toArray (ZAT kv vv m).length):=hh.ok (hM b kv vv m) hm;rw[hl] at hb;have hr:w.heap[r]?=some (.mapIter (some b) m.length (seen.push j) m.length):=hh.ok (hIt b r m.length (seen.push j)) hi;have hlen:(Zb 0 (ZAT kv vv m)).length=m.length:=by rw[ZAF,hl]
 have hat:∀(i:Nat) (h:i<m.length),(Zb 0 (ZAT kv vv m))[i]'(by rw[hlen];exact h)=⟨kv m[i].1,vv m[i].2,i⟩:=fun i h=>by
  rw[ZAs _ _ _ (by rw[hl];exact h)];simp[ZAT]
 have hf:(Zb 0 (ZAT kv vv m)).toArray.find? (·.born == j)=some ⟨kv m[j].1,vv m[j].2,j⟩:=by
  rw[<- Array.find?_toList];rw[List.find?_eq_some_iff_getElem];refine⟨by simp,j,by simp;rw[hlen];exact hj,by simpa using hat j hj,fun i hi=>?_⟩;have:=hat i (by omega);simp[this];omega
 refine⟨.tuple #[kv m[j].1,vv m[j].2],w,?_,ZWS _,[kv m[j].1,vv m[j].2],rfl,rfl,fun i e x he hx=>?_⟩
 ·unfold execOp;have:(Instr.entry (.pointer (some ⟨r,0,none⟩))).run P w = .ok (.tuple #[kv m[j].1,vv m[j].2]) w:=by
   simp only[Instr.entry,Sem.run_bind,ZFD hr,MapKept.run_getObj_map hb,Result.andThen,Array.back?_push,bne_self_eq_false,Bool.false_eq_true,if_false,hf];rfl
  simp only[e1,Sem.run_bind,this,Result.andThen_ok,Sem.run_pure]
 ·match i,he,hx with
  | 0,he,hx=>cases he;cases hx;rfl
  | 1,he,hx=>cases he;cases hx;rfl
end
end
section
open Go.RowKit

abbrev vvI (n:Int):Value:=.int .i64 n
end
section
open Go.RowKit

abbrev vc:Vx:=(2,0)
abbrev vd:Vx:=(3,0)
end
section
open Go.RowKit

def ZFY:Nat->Nat->Nat
 | _,0=>1
 | 0,_+1=>0
 | n+1,k+1=>ZFY n k+ZFY n (k+1)
theorem ZCS:∀(s:List Vx) (k:Nat),(ZT k s).length=ZFY s.length k
 | s,0=>by rw[ZNs];cases s <;> rfl
 | [],k+1=>by rw[ZAh _ _ (by simp)];rfl
 | v::s,k+1=>by rw[ZNr,ZCS s k,ZCS s (k+1)];rfl
theorem ZLW {l:Cx} (h:ZBY l=true):l.length≤30:=by
 unfold ZBY at h;simp only[Bool.and_eq_true,decide_eq_true_eq] at h;exact h.1
theorem ZKm (l:Cx):Fn Tryz.prog 17 [dS Zh l,dS Zh l] (dB true):=by
 have:=ZQL l l;rwa[decide_eq_true rfl] at this
end
section
theorem ZRs {l:Cx} {s:List Vx}:ZBm l s=true↔∃f∈l,Z8 s f=true:=by unfold ZBm;rw[List.any_eq_true]
theorem ZTX {l:Cx} {k B:Nat} (h:∀s∈l,(ZT k s).length≤B):(ZAi l k).length≤B*l.length:=by
 have h1:(ZAi l k).length≤(ZHb l k).length:=List.Nodup.length_le_of_subset (ZCZ l _).nodup fun x hx=>ZGL.2 hx;have h2:∀l:Cx,(∀s∈l,(ZT k s).length≤B)->(ZHb l k).length≤B*l.length:=by
  intro l;induction l with
  | nil=>intro _;simp[ZHb]
  | cons s l ih =>
   intro h;have h3:=ih fun x hx=>h x (List.mem_cons_of_mem _ hx);have h4:=h s (by simp);have h5:(ZHb (s::l) k).length=(ZT k s).length+(ZHb l k).length:=by unfold ZHb;simp
   rw[h5,List.length_cons,Nat.mul_add,Nat.mul_one];omega
 exact Nat.le_trans h1 (h2 l h)
theorem ZRe:∀n≤5,∀k≤5,ZFY n k≤10:=by decide
structure Gd (l:Cx):Prop where
 good:GoodX l
 few:l.length≤30
 five:∀s∈l,s.length≤5
theorem Gd.all {l:Cx} (h:Gd l) (k:Nat):(ZAi l k).length≤300:=by
 have:=ZTX (l:=l) (k:=k) (B:=10) fun s hs=>by
  have h5:=h.five s hs;by_cases hk:k≤5
  ·rw[ZCS];exact ZRe _ h5 _ hk
  ·rw[ZAh k s (by omega)];simp
 have:=h.few;omega
theorem Gd.zero {l:Cx} (h:Gd l):ZBC l=0:=ZAX.2 h.good
end
section
def orL (f:Vx->Int) (t:List Vx):Int:=t.foldl (fun m v=>ior m (f v)) 0
end
section
open Go.RowKit

theorem ZPq (x y:Vx):Fn Tryz.prog 40 [dS RV x,dS RV y] (dI (ZAW x y)):=by
 have hC:=ZHx [x] [y];rw[M.ZMJ] at hC;refine zE Tryz.func40 10 ?_;((repeat' (first|refine zS ?_|refine ZA fun Kx hK=>?_|(refine hK _ _ ?_;clear hK)|(apply zV;(focus ((first|(apply ZVm (hC) Tryz.call80;exact aD)|(apply ZWg;exact eD;((try simp only[List.map_cons,List.map_nil]);(repeat (first|exact Zr|(apply Zp;(first|exact ZVh rfl|exact ZV5|exact ZWE|exact ZWD rfl (by first|exact ZN|exact ZJ (by decide))|exact⟨ZN⟩|exact⟨ZJ (by decide)⟩)))));rfl;rfl;decide;(intro _;exact ZBA);(exact(by simp)))|exact yG);all_goals infer_instance));exact zQ)|refine ZVs ?_));all_goals ((repeat clear hK);repeat clear Kx))
 (refine⟨trivial,_,rfl,?_⟩;exact fD)
section
variable {P:Program} {ops:Array Oper} {hp:List HObj} {fr:List Dat} {dst:Option Tmp} {ty:TypeId} {ps:String} {af:Array Edge} {g:Option (Nat × Bool)}
theorem ZIJ {x:Operand} {A T:TypeId} {u v:Value} {n:Int} (hx:OpD fr x (dI n)) (hu:u = .int .i64 n) (hr:∀w,(convert A T u).run P w = .ok v w) :
  SY P ops hp ⟨dst,.convert A T x,ty,ps,af,g⟩ fr (dX v):=ZWK fun {I w a} ho=>by
 have h1:a.eval x=u:=(hx.get (by simp[Op.operands]) ho:a.eval x = .int .i64 n).trans hu.symm;refine⟨v,?_,rfl⟩;unfold execOp;simp only[h1,Sem.run_bind,hr,Result.andThen_ok,Sem.run_pure]
theorem ZLF {x y:Operand} {T T2:TypeId} {u v r:Value} {op:BinOp} (hx:OpD fr x (dX u)) (hy:OpD fr y (dX v)) (hr:∀(x y:Operand) w,(do eqGuard op T x y u v;Go.binOp op T u v).run P w = .ok r w) :
  SY P ops hp ⟨dst,.binOp op T x y T2,ty,ps,af,g⟩ fr (dX r):=ZWK fun {I w a} ho=>by
 have h1:a.eval x=u:=hx.get (by simp[Op.operands]) ho;have h2:a.eval y=v:=hy.get (by simp[Op.operands]) ho;refine⟨r,?_,rfl⟩;have:=hr x y w;unfold execOp;simp only[h1,h2];rw[Sem.run_bind,this];rfl
end
theorem cvIW (n:Nat) (h:n<9223372036854775808):∀w,(convert 3 177 (.int .i64 (n:Int))).run Tryz.prog w = .ok (.int .u64 (n:Int)) w:=by
 have hw:IntKind.u64.wrap (n:Int)=(n:Int):=by simp[IntKind.wrap,IntKind.signed,IntKind.bits];omega
 intro w;go_simp
theorem cvWI (n:Nat) (h:n<9223372036854775808):∀w,(convert 177 3 (.int .u64 (n:Int))).run Tryz.prog w = .ok (.int .i64 (n:Int)) w:=by
 have hw:IntKind.i64.wrap (n:Int)=(n:Int):=by rw[IntKind.wrap_i64];omega
 intro w;go_simp
theorem shrW (n:Nat) (h:n<9223372036854775808):∀(x y:Operand) w,(do eqGuard .shr 177 x y (.int .u64 (n:Int)) (.int .u64 1);Go.binOp .shr 177 (.int .u64 (n:Int)) (.int .u64 1)).run Tryz.prog w = .ok (.int .u64 ((n / 2:Nat):Int)) w:=by
 intro x y w
 go_simp
abbrev dOrd:Dat:=ZK7 Tryz.prog (fun x:Vx × Vx=>[dS RV x.1,dS RV x.2]) (fun x=>dI (ZAW x.1 x.2))
theorem ZHd:TyI Tryz.prog 23 1 false:=⟨by kernel_rfl,Tryz.isAgg23⟩
theorem tyFi:TyI Tryz.prog 83 1 false:=⟨by kernel_rfl,Tryz.isAgg83⟩
theorem tzFi:TyZ Tryz.prog 83 .nilFunc:=⟨by kernel_rfl⟩
def ZUi (vs:List Vx) (v:Vx):Nat:=(vs.filter fun u=>decide (ZAW u v<0)).length
theorem ZS5 {vs:List Vx} {v:Vx} {i:Nat} (hi:i≤vs.length) (h1:∀k (h:k<vs.length),k<i->ZAW vs[k] v<0) (h2:∀k (h:k<vs.length),i≤k->¬ ZAW vs[k] v<0):ZUi vs v=i:=by
 unfold ZUi;have e:vs=vs.take i++vs.drop i:=(List.take_append_drop i vs).symm;rw[e,List.filter_append,List.length_append];have a1:(vs.take i).filter (fun u=>decide (ZAW u v<0))=vs.take i:=by
  rw[List.filter_eq_self];intro u hu;obtain⟨k,hk,rfl⟩:=List.getElem_of_mem hu;rw[List.length_take] at hk;rw[List.getElem_take];exact decide_eq_true (h1 k (by omega) (by omega))
 have a2:(vs.drop i).filter (fun u=>decide (ZAW u v<0))=[]:=by
  rw[List.filter_eq_nil_iff];intro u hu;obtain⟨k,hk,rfl⟩:=List.getElem_of_mem hu;rw[List.length_drop] at hk;rw[List.getElem_drop,decide_eq_true_eq];exact h2 (i+k) (by omega) (by omega)
 rw[a1,a2,List.length_take,List.length_nil];omega
theorem ZSo {vs:List Vx} (ha:Asc vs) {v:Vx} {k m:Nat} (hk:k<m) (hm:m<vs.length) (h:ZAW vs[m] v<0):ZAW (vs[k]'(by omega)) v<0 :=
 ZBD (List.pairwise_iff_getElem.1 ha k m (by omega) hm hk) h
theorem bs_p (vs:List Vx) (v:Vx) (ha:Asc vs) (hl:vs.length≤1000000):Fn Tryz.prog 86 [dS ZI vs,dS RV v,dOrd] (dT [dI (ZUi vs v:Int),dB (decide (v∈vs))]):=by
 refine zF Tryz.func86 49 ?_;(repeat' (first|refine zS ?_|refine ZA fun Kx hK=>?_|(refine hK _ _ ?_;clear hK)|((first|apply ZF|apply WD.op);(focus (first|exact wN|(apply ZVt;exact wY;((first|(apply ZVu;exact oD;exact nD;exact uD)|(apply ZV3;exact oD;exact hD)|fail);all_goals infer_instance))));dsimp only[ZC,z0,z1])|refine ZVp ?_))
 (refine ZV4 (X:=Nat × Nat) (fun x=>[(9,dI (x.1:Int)),(10,dI (x.2:Int)),(11,dA),(15,dA),(16,dA),(17,dA),(18,dA),(19,dA),(20,dA),(21,dA),(22,dA),(23,dA),(24,dA),(25,dA),(26,dA),(27,dA),(28,dA),(29,dA),(30,dA),(31,dA),(32,dA),(33,dA),(34,dA)]) (fun x=>[]) (fun x=>x.2-x.1) (fun x=>x.1≤x.2/\x.2≤vs.length/\(∀k (h:k<vs.length),k<x.1->ZAW vs[k] v<0)/\(∀k (h:k<vs.length),x.2≤k->¬ ZAW vs[k] v<0)) (0,vs.length) ?start ?frame0 ?objs0 ?round)
 case start=>exact⟨Nat.zero_le _,Nat.le_refl _,fun k _ h=>by omega,fun k h1 h2=>by simp only at h2;omega⟩
 case frame0=>exact zFr
 case objs0=>rfl
 case round =>
  rintro⟨i,j⟩ ⟨h1,h2,h3,h4⟩;simp only at h1 h2 h3 h4;dsimp only[ZH,z0,z1];by_cases hij:i<j
  ·have hm:(i+j) / 2<vs.length:=by omega
   ((repeat' (first|refine zS ?_|refine WD.nil ?_|refine ZA fun Kx hK=>?_|(refine hK _ _ ?_;clear hK)|(apply ZWB;kernel_rfl;kernel_rfl)|((first|apply ZF|apply WD.op);(focus (first|exact wN|(apply ZVt;exact wY;((first|(exact ZIJ (n:=(i:Int)+(j:Int)) (ZVh rfl) (u:=.int .i64 ((i+j:Nat):Int)) (by push_cast;rfl) (cvIW (i+j) (by omega)))|(exact ZLF (ZVh rfl) ZWQ (shrW (i+j) (by omega)))|(exact ZII (ZVh rfl) (cvWI ((i+j) / 2) (by omega)))|(refine Zy (R:=RV) (_gR:=inferInstance) elV (ZVh rfl) (ZVh rfl) hm)|(apply ZBJ (x:=(vs[(i+j) / 2],v));(exact ZVh rfl);exact aD)|exact yG|fail);all_goals infer_instance))));dsimp only[ZC,z0,z1])|(apply ZB;exact oD;all_goals (intro h;try exact xD))|refine ZVr ?_|refine ZVp ?_|refine ZVx ?_|refine ZWc ?_));all_goals ((repeat clear hK);repeat clear Kx))
   all_goals try exact xO
   ·(refine zNx ((i+j) / 2+1,j) ?_;(try dsimp only))
    refine⟨by omega,h2,fun k hk hlt=>?_,h4⟩;by_cases hkm:k=(i+j) / 2
    ·subst hkm;exact h
    ·exact ZSo ha (by omega) hm h
   ·(refine zNx (i,(i+j) / 2) ?_;(try dsimp only))
    refine⟨by omega,by omega,h3,fun k hk hle hlt=>?_⟩;by_cases hkm:k=(i+j) / 2
    ·subst hkm;exact h hlt
    ·exact h (ZSo ha (by omega) hk hlt)
  ·have hie:i=j:=by omega
   subst hie;have hp:=ZS5 h2 h3 h4;have hb:=fun hv=>ZNo ha h3 h4 (v:=v) hv;rw[hp];by_cases hi:i<vs.length
   ·have hd:decide (v∈vs)=decide (ZAW vs[i] v=0):=by
     rw[decide_eq_decide];constructor
     ·intro hv;obtain⟨_,e⟩:=hb hv;rw[e];exact ZBy.2 rfl
     ·intro e;rw[<- ZBy.1 e];exact List.getElem_mem hi
    rw[hd];((repeat' (first|refine zS ?_|refine WD.nil ?_|refine ZA fun Kx hK=>?_|(refine hK _ _ ?_;clear hK)|(refine ZV0 ?_;clear hK)|(apply ZWB;kernel_rfl;kernel_rfl)|((first|apply ZF|apply WD.op);(focus (first|exact wN|(apply ZVt;exact wY;((first|(refine Zy (R:=RV) (_gR:=inferInstance) elV (ZVh rfl) (ZVh rfl) hi)|(apply ZBJ (x:=(vs[i],v));(exact ZVh rfl);exact aD)|exact yG|fail);all_goals infer_instance))));dsimp only[ZC,z0,z1])|((first|refine ZM rfl rfl rfl (fun h=>?_) (fun h=>?_)|refine ZL rfl rfl rfl (fun h=>?_) (fun h=>?_)|refine ZK rfl rfl rfl (fun h=>?_) (fun h=>?_)|refine Za rfl rfl rfl (fun h=>?_) (fun h=>?_)|refine ZX rfl rfl rfl (fun h=>?_) (fun h=>?_)|refine ZV rfl rfl rfl (fun h=>?_) (fun h=>?_)) <;> (first|(exfalso;first|omega|contradiction)|(dsimp only[z0,z1])))|(apply ZB;exact oD;all_goals (intro h;try exact xD))|refine ZVs ?_|refine ZV1 ?_));all_goals ((repeat clear hK);repeat clear Kx))
    all_goals try exact xO
    (refine⟨trivial,⟨_,rfl,?_⟩,_,rfl,?_⟩ <;> (first|refine ZWH ?_|refine ZWL ?_)) <;> first|(rw[hp])|(rw[hd])
   ·have hd:decide (v∈vs)=false:=decide_eq_false fun hv=>hi (hb hv).1;rw[hd];((repeat' (first|refine zS ?_|refine WD.nil ?_|refine ZA fun Kx hK=>?_|(refine hK _ _ ?_;clear hK)|(refine ZV0 ?_;clear hK)|(apply ZWB;kernel_rfl;kernel_rfl)|((first|apply ZF|apply WD.op);(focus (first|exact wN|(apply ZVt;exact wY;((first|exact yG|fail);all_goals infer_instance))));dsimp only[ZC,z0,z1])|((first|refine ZM rfl rfl rfl (fun h=>?_) (fun h=>?_)|refine ZL rfl rfl rfl (fun h=>?_) (fun h=>?_)|refine ZK rfl rfl rfl (fun h=>?_) (fun h=>?_)|refine Za rfl rfl rfl (fun h=>?_) (fun h=>?_)|refine ZX rfl rfl rfl (fun h=>?_) (fun h=>?_)|refine ZV rfl rfl rfl (fun h=>?_) (fun h=>?_)) <;> (first|(exfalso;first|omega|contradiction)|(dsimp only[z0,z1])))|(apply ZB;exact oD;all_goals (intro h;try exact xD))|refine ZVs ?_|refine ZV1 ?_));all_goals ((repeat clear hK);repeat clear Kx))
    all_goals try exact xO
    (refine⟨trivial,⟨_,rfl,?_⟩,_,rfl,?_⟩ <;> (first|refine ZWH ?_|refine ZWL ?_)) <;> first|(rw[hp])|(rw[hd])
theorem ZMW:(dX (.func (.func 40) #[] #[])).le dOrd:=ZKN Tryz.call40 fun x=>ZPq x.1 x.2
theorem ZTq {vs:List Vx} {A:List Int} {v:Vx} (ha:Asc vs) (hA:A.length=vs.length) (hv:v∈vs):∃h:ZUi vs v<A.length,Zc vs A v=A[ZUi vs v]:=by
 obtain⟨k,hk,rfl⟩:=List.getElem_of_mem hv;have hn:vs.Nodup:=List.Pairwise.imp (fun {a b} h e=>by rw[e,ZBy.2 rfl] at h;omega) ha;have hp:ZUi vs vs[k]=k:=by
  refine ZS5 (Nat.le_of_lt hk) (fun m hm hlt=>List.pairwise_iff_getElem.1 ha m k hm hk hlt) (fun m hm hle hlt=>?_);rcases Nat.lt_or_ge k m with q|q
  ·have h1:=List.pairwise_iff_getElem.1 ha k m hk hm q;have h2:=ZIa vs[k] vs[m];omega
  ·have:k=m:=by omega
   subst this;rw[ZBy.2 rfl] at hlt;omega
 rw[hp];exact⟨by omega,ZJ9 hn hk (by omega)⟩
theorem ZPT (vs:List Vx) (A:List Int) (v:Vx) (ha:Asc vs) (hA:A.length=vs.length) (hl:vs.length≤1000000):Fn Tryz.prog 85 ([dS RV v]++[dP 2 true (dS Lab (vs,A))]) (dI (Zc vs A v)):=by
 show Fn Tryz.prog 85 [dS RV v,dP 2 true (dS Lab (vs,A))] _;have hB:=bs_p vs v ha hl;by_cases hv:v∈vs
 ·obtain⟨hp,he⟩:=ZTq ha hA hv;rw[decide_eq_true hv] at hB;refine zE Tryz.func85 20 ?_;((repeat' (first|refine zS ?_|refine ZA fun Kx hK=>?_|(refine hK _ _ ?_;clear hK)|(apply zV;(focus ((first|(refine ZW ZAp (ZVh rfl) ZAA rfl rfl)|(apply ZVm hB Tryz.call86;exact ZV9 (ZVh rfl) (ZV9 (ZVh rfl) (ZV9 ⟨ZMW⟩ ZWJ)))|(apply ZVy;exact ZHd;exact ZVh rfl)|(refine ZV8 (R:=RI) (_gR:=inferInstance) elI (ZVh rfl) (ZVh rfl) hp)|exact yG);all_goals infer_instance));exact zQ)|(apply ZO;exact oD;all_goals (intro h;try exact xD))|refine ZVr ?_|refine ZVs ?_));all_goals ((repeat clear hK);repeat clear Kx))
  all_goals try exact xO
  (refine⟨trivial,_,rfl,?_⟩;refine ZWH ?_)
  all_goals (rw[he])
 ·rw[decide_eq_false hv] at hB;rw[ZHz hv];refine zE Tryz.func85 20 ?_;((repeat' (first|refine zS ?_|refine ZA fun Kx hK=>?_|(refine hK _ _ ?_;clear hK)|(apply zV;(focus ((first|(refine ZW ZAp (ZVh rfl) ZAA rfl rfl)|(apply ZVm hB Tryz.call86;exact ZV9 (ZVh rfl) (ZV9 (ZVh rfl) (ZV9 ⟨ZMW⟩ ZWJ)))|exact yG);all_goals infer_instance));exact zQ)|(apply ZO;exact oD;all_goals (intro h;try exact xD))|refine ZVs ?_|refine ZVz ?_));all_goals ((repeat clear hK);repeat clear Kx))
  all_goals try exact xO
  (refine⟨trivial,_,rfl,?_⟩;exact fD)
abbrev ZNL (f:Vx->Int):Dat:=ZK7 Tryz.prog (fun v:Vx=>[dS RV v]) (fun v=>dI (f v))
theorem ZGM (vs:List Vx) (A:List Int) (ha:Asc vs) (hA:A.length=vs.length) (hl:vs.length≤1000000):Fn Tryz.prog 46 [dS Lab (vs,A)] (ZNL (Zc vs A)):=by
 refine zE Tryz.func46 4 ?_;((repeat' (first|refine zS ?_|refine ZA fun Kx hK=>?_|(refine hK _ _ ?_;clear hK)|(apply zV;(focus ((first|(apply ZBj (A:=fun v:Vx=>[dS RV v]) (r:=fun v=>dI (Zc vs A v)) Tryz.call85 (fun v=>ZPT vs A v ha hA hl) (fun _=>ZOt);exact aD)|exact yG);all_goals infer_instance));exact zQ)|refine ZVs ?_));all_goals ((repeat clear hK);repeat clear Kx))
 (refine⟨trivial,_,rfl,?_⟩;exact fD)
theorem ZPH (f:Vx->Int) (v:Vx):Fn Tryz.prog 84 ([dS RV v]++[dP 1 false (ZNL f)]) (dB (decide (f v=0))):=by
 show Fn Tryz.prog 84 [dS RV v,dP 1 false (ZNL f)] _;refine zE Tryz.func84 8 ?_;((repeat' (first|refine zS ?_|refine ZA fun Kx hK=>?_|(refine hK _ _ ?_;clear hK)|(apply zV;(focus ((first|(apply ZVy;exact tyFi;exact ZVh rfl)|(apply ZBJ (x:=v);(exact ZVh rfl);exact aD)|exact yG);all_goals infer_instance));exact zQ)|refine ZVs ?_));all_goals ((repeat clear hK);repeat clear Kx))
 (refine⟨trivial,_,rfl,?_⟩;exact fD)
def ZGJ (l:Cx) (f:Vx->Int):Bool:=l.all fun s=>!(s.any fun v=>decide (f v=0))
theorem ZGK (l:Cx) (vs:List Vx) (A:List Int) (ha:Asc vs) (hA:A.length=vs.length) (hl:vs.length≤1000000):Fn Tryz.prog 44 [dS Cpx l,dS Lab (vs,A)] (dB (ZGJ l (Zc vs A))):=by
 refine zE Tryz.func44 21 ?_;(first|refine ZP (t:=0) rfl ZEG fun hl0=>?_|refine ZP (t:=0) rfl ZDu fun hl0=>?_|refine ZP (t:=0) rfl ZJS fun hl0=>?_);simp only[maxLen] at hl0
 (repeat' (first|(apply zV;exact yF;exact zQ)|refine ZVj ?_|refine ZA fun Kx hK=>?_|(refine hK _ _ ?_;clear hK)|refine ZVk ?_ |  (refine ZWF tzFi (Z0 rfl) fun b5=>?_;dsimp only[ZC,z0,z1]) |  (refine ZR tyFi rfl (ZVh rfl) ZLm ?_;dsimp only[ZC,z0,z1])|(apply zV;(focus ((first|(apply ZVy;exact ZAz;exact ZVh rfl)|(apply ZVm (ZGM vs A ha hA hl) Tryz.call46;exact aD)|(apply ZVu;exact oD;exact nD;exact uD)|(apply ZDM ZNz;exact ZVh rfl)|(apply ZV3;exact oD;exact hD));all_goals infer_instance));exact zQ)|refine ZVp ?_))
 (refine ZV4 (X:=Nat) (fun k=>[(13,dI (k:Int)),(4,dA),(7,dA),(14,dA),(15,dA),(16,dA),(17,dA),(18,dA),(19,dA),(20,dA)]) (fun k=>[]) (fun k=>l.length-k) (fun k=>k≤l.length/\ZGJ l (Zc vs A)=ZGJ (l.drop k) (Zc vs A)) 0 ?start ?frame0 ?objs0 ?round)
 case start=>exact⟨Nat.zero_le _,rfl⟩
 case frame0=>exact zFr
 case objs0=>rfl
 case round =>
  rintro k ⟨h1,h2⟩;dsimp only[ZH,z0,z1];((repeat' (first|refine zS ?_|refine ZA fun Kx hK=>?_|(refine hK _ _ ?_;clear hK)|(refine ZV0 ?_;clear hK)|(apply zV;(focus ((first|(apply ZBj (A:=fun v:Vx=>[dS RV v]) (r:=fun v=>dB (decide (Zc vs A v=0))) Tryz.call84 (fun v=>ZPH (Zc vs A) v) (fun _=>ZHs);exact aD)|(apply ZVm (ZSq _ (fun v=>decide (Zc vs A v=0))) Tryz.call83;exact aD)|exact yG);all_goals infer_instance));exact zQ)|(apply ZB;exact oD;all_goals (intro h;try exact xD))|(apply ZWY;exact oD;all_goals (intro h;try exact xD))|refine ZVr ?_|refine ZVs ?_|refine ZV1 ?_|refine ZVp ?_|refine ZVx ?_|refine ZVz ?_|refine ZWC ?_));all_goals ((repeat clear hK);repeat clear Kx))
  ·(refine⟨trivial,_,rfl,?_⟩;refine ZWL ?_)
   rw[h2,List.drop_eq_getElem_cons (by omega)];unfold ZGJ;rw[List.all_cons,h];rfl
  ·(refine zNx (k+1) ?_;(try dsimp only))
   refine⟨by omega,?_⟩;rw[h2,List.drop_eq_getElem_cons (by omega)];unfold ZGJ;rw[List.all_cons,h];rfl
  ·(refine⟨trivial,_,rfl,?_⟩;refine ZWL ?_)
   rw[h2,List.drop_of_length_le (by omega)];rfl
theorem ZQU (m:Int) (h : -1000000≤m/\m≤1000000):Fn Tryz.prog 75 [dI m] (dB (!decide (ZQt m (m-1)=0))):=by
 refine zE Tryz.func75 8 ?_;((repeat' (first|refine zS ?_|refine ZA fun Kx hK=>?_|(refine hK _ _ ?_;clear hK)|(apply zV;exact yG;exact zQ)|refine ZVs ?_));all_goals ((repeat clear hK);repeat clear Kx))
 (refine⟨trivial,_,rfl,?_⟩;exact fD)
def ZUk (A:List Int):Bool:=!(A.any fun m=>!decide (ZQt m (m-1)=0))
theorem ZMs (vs:List Vx) (A:List Int) (h:∀m∈A,-1000000≤m/\m≤1000000):Fn Tryz.prog 35 [dS Lab (vs,A)] (dB (ZUk A)):=by
 have hC:=ZSr A fun m=>!decide (ZQt m (m-1)=0);refine zE Tryz.func35 7 ?_;((repeat' (first|refine zS ?_|refine ZA fun Kx hK=>?_|(refine hK _ _ ?_;clear hK)|(apply zV;(focus ((first|(refine ZW ZAp (ZVh rfl) ZAA rfl rfl)|(apply ZVy;exact ZHd;exact ZVh rfl)|(apply ZVm hC Tryz.call74;exact ZV9 (ZVh rfl) (ZV9 ⟨ZKN Tryz.call75 fun i=>ZQU i.1 (h i.1 i.2)⟩ ZWJ))|exact yG);all_goals infer_instance));exact zQ)|refine ZVs ?_));all_goals ((repeat clear hK);repeat clear Kx))
 (refine⟨trivial,_,rfl,?_⟩;exact fD)
theorem ZFq (s:List Vx) (f:Vx->Int):Fn Tryz.prog 45 [dS ZI s,ZNL f] (dI (orL f s)):=by
 refine zE Tryz.func45 21 ?_;(first|refine ZP (t:=0) rfl ZEG fun hl0=>?_|refine ZP (t:=0) rfl ZDu fun hl0=>?_|refine ZP (t:=0) rfl ZJS fun hl0=>?_);simp only[maxLen] at hl0
 (repeat' (first|refine zS ?_|refine ZA fun Kx hK=>?_|(refine hK _ _ ?_;clear hK)|(apply zV;(focus ((first|(apply ZVu;exact oD;exact nD;exact uD));all_goals infer_instance));exact zQ)|refine ZVp ?_))
 (refine ZV4 (X:=Nat) (fun k=>[(5,dI (orL f (s.take k))),(10,dI (k:Int)),(7,dA),(11,dA),(12,dA),(13,dA),(14,dA),(15,dA),(16,dA),(17,dA),(18,dA),(19,dA)]) (fun k=>[]) (fun k=>s.length-k) (fun k=>k≤s.length) 0 ?start ?frame0 ?objs0 ?round)
 case start=>exact Nat.zero_le _
 case frame0=>exact zFr
 case objs0=>rfl
 case round =>
  rintro k h1;dsimp only[ZH,z0,z1];by_cases hk:k<s.length
  ·have he:ior (orL f (s.take k)) (f s[k])=orL f (s.take (k+1)):=by
    unfold orL;rw[List.take_succ_eq_append_getElem hk,List.foldl_append];rfl
   ((repeat' (first|refine zS ?_|refine ZA fun Kx hK=>?_|(refine hK _ _ ?_;clear hK)|(apply ZWF;(first|exact tzV|exact tzC);(first|exact Z0 rfl|exact ZAw|exact shape_C0 rfl);(intro _;dsimp only[ZC,z0,z1]))|(apply ZR;exact tD;rfl;exact oD;exact hD;dsimp only[ZC,z0,z1])|(apply zV;(focus ((first|(apply ZBJ (x:=s[k]);(exact ZVh rfl);exact aD)|exact yG);all_goals infer_instance));exact zQ)|(apply ZB;exact oD;all_goals (intro h;try exact xD))|refine ZVr ?_|refine ZVp ?_|refine ZVx ?_));all_goals ((repeat clear hK);repeat clear Kx))
   all_goals try exact xO
   rw[he];(refine zNx (k+1) ?_;(try dsimp only))
   omega
  ·((repeat' (first|refine zS ?_|refine ZA fun Kx hK=>?_|(refine hK _ _ ?_;clear hK)|(refine ZV0 ?_;clear hK)|(apply zV;exact yG;exact zQ)|(apply ZB;exact oD;all_goals (intro h;try exact xD))|refine ZVs ?_|refine ZV1 ?_));all_goals ((repeat clear hK);repeat clear Kx))
   all_goals try exact xO
   rw[List.take_of_length_le (by omega)];(refine⟨trivial,_,rfl,?_⟩;exact fD)
end
section
open Go.RowKit
abbrev NoDef (ops:List Oper):Prop:=(ops.all fun o=>match o.op with|.defer _=>false|_=>true)=true
theorem NoDef.at {ops:List Oper} (h:NoDef ops):∀o∈ops,∀c,o.op ≠ .defer c:=fun o ho c hc=>by have:=List.all_eq_true.1 h o ho;rw[hc] at this;cases this
section
variable {P:Program} {l:Nat} {Q:Z4} {fr:List Dat} {hp:List HObj} {c:Code} {d:Dat}
theorem WR.on (h:WR P l Q c fr hp) {P0:Nat->Prop} {B:Nat} {w0 w:World} {a:Act} (hh:Hp P0 B w0 hp w) (hf:Fr (Imm P0 B hp) w a fr):c.wpIn (Fence.wide.inRound l) 0 P (ZCs Q P0 B w0) a w:=h.out _ _ _ _ _ hh hf
theorem WR.id (h:WR P l Q c fr hp):WR P l Q c fr hp:=h
theorem WR.mono {Q':Z4} (h:WR P l Q c fr hp) (k:∀e f p,Q e f p->Q' e f p):WR P l Q' c fr hp:=WR.of fun _ _ _ _ _ hh hf=>wpIn_mono (h.on hh hf) fun _ _ _ ⟨f,p,q,r⟩=>⟨f,p,k _ _ _ q,r⟩
theorem WR.weak {fr':List Dat} (h:WR P l Q c fr' hp) (hl:fr.length=fr'.length) (k:∀(t:Nat) (d:Dat),fr'[t]?=some d->∃d0:Dat,fr[t]?=some d0/\d0.le d):WR P l Q c fr hp:=WR.of fun _ _ _ _ _ hh hf=>h.on hh (hf.weak hl k)
theorem WR.drop {o:HObj} (h:WR P l Q c fr hp):WR P l Q c fr (o::hp):=WR.of fun _ _ _ _ _ hh hf=>h.on hh.drop (hf.mono fun d _ hd=>d.weak hd ZWZ)
end
namespace I
section
variable {P:Program} {ops:Array Oper} {hp:List HObj} {fr:List Dat} {d:Dat} {Q:Z4} {rest:List Oper} {dst:Option Tmp} {op:Op} {ty:TypeId} {ps:String} {af:Array Edge}
theorem WL.opN (h:SY P ops hp ⟨dst,op,ty,ps,af,none⟩ fr d) (k:WL P ops Q rest (ZC fr dst d) hp):WL P ops Q (⟨dst,op,ty,ps,af,none⟩::rest) fr hp:=ZF (SYG.yes (ZY rfl) h) k
end
end I
end
section
open Go.RowKit
theorem ZMl {K V:Type} [DecidableEq K] {m:List (K × V)} {x:K} {v:V} {p:K × V} (h:p∈ZCH m x v):p=(x,v)\/p∈m:=by
 unfold ZCH at h;split at h
 ·obtain⟨q,hq,rfl⟩:=List.mem_map.1 h;split
  ·exact .inl rfl
  ·exact .inr hq
 ·rcases List.mem_append.1 h with h|h
  ·exact .inr h
  ·exact .inl (List.mem_singleton.1 h)
theorem ZF2 {K V:Type} [DecidableEq K] {m:List (K × V)} {x:K}:(lookM m x).isSome=true↔x∈m.map (·.1):=by
 unfold lookM;rw[Option.isSome_map,List.find?_isSome];constructor
 ·rintro⟨p,hp,he⟩;exact List.mem_map.2 ⟨p,hp,of_decide_eq_true he⟩
 ·intro h;obtain⟨p,hp,he⟩:=List.mem_map.1 h;exact⟨p,hp,decide_eq_true he⟩
theorem ZP6 {K V:Type} [DecidableEq K] (m:List (K × V)) (x:K) (v:V):(ZCH m x v).map (·.1)=if x∈m.map (·.1) then m.map (·.1) else m.map (·.1)++[x]:=by
 unfold ZCH;by_cases h:x∈m.map (·.1)
 ·rw[if_pos (ZF2.2 h),if_pos h,List.map_map];refine List.map_congr_left fun p _=>?_;show(if p.1=x then(x,v) else p).1=p.1;split
  ·rename_i e;exact e.symm
  ·rfl
 ·rw[if_neg fun q=>h (ZF2.1 q),if_neg h,List.map_append];rfl
section
variable {P:Program} {ops:Array Oper} {hp:List HObj} {fr:List Dat} {d:Dat} {Q:Z4} {rest:List Oper}
variable {dst:Option Tmp} {ty:TypeId} {ps:String} {af:Array Edge} {g:Option (Nat × Bool)} {t k e:TypeId} {z:Value} {K α:Type} [DecidableEq K] {kv:K->Value} {ok:K->Prop} {R:Rel α} [Good R] {b:Nat} {M:List (K × Value × α)}
theorem ZIL {x:Operand} {ad:Addr} (hx:OpD fr x (dX (.pointer (some ad)))):SY P ops hp ⟨dst,.nilCheck x,ty,ps,af,g⟩ fr (dX (.pointer (some ad))):=ZWK fun {I w a} ho=>by
 have h1:a.eval x = .pointer (some ad):=hx.get (by simp[Op.operands]) ho;refine⟨.pointer (some ad),?_,rfl⟩;unfold execOp;simp only[h1,Sem.run_pure]
end
namespace I
section
variable {P:Program} {ops:Array Oper} {hp:List HObj} {fr:List Dat} {d e:Dat} {Q:Z4} {rest:List Oper}
variable {dst:Option Tmp} {ty:TypeId} {ps:String} {af:Array Edge} {g:Option (Nat × Bool)} {T T1 T2:TypeId} {b off k n:Nat} {ds ds':List Dat}
theorem WL.storeS {t:Nat} {x:Operand} (T':TyI P T1 1 false) (hp0:OpD fr (.tmp t) (dX (.pointer (some ⟨b,k,none⟩)))) (hx:OpD fr x d) (hs:d.Shape 1 false) (hk:k<ds.length)
  (h:WL P ops Q rest (ZC fr dst (dX undef)) (ZAV b T2 (ds.set k d)::hp)) :
  WL P ops Q (⟨dst,.store T1 (.tmp t) x,ty,ps,af,none⟩::rest) fr (ZAV b T2 ds::hp):=by
 refine WL.of fun P0 B w0 w a hh hf=>?_;obtain⟨cs,c1,c2,c3,c4⟩:=hh.ok (ZAV b T2 ds) (by simp);have h1:a.eval (.tmp t)=_:=hp0.ev hf;have hd:d.rd (Imm P0 B (ZAV b T2 ds::hp)) w (a.eval x):=hx.ev hf;obtain⟨us,u1,u0,u2,u3,u4⟩:=hs _ _ _ hd;obtain⟨u,rfl⟩:∃u,us=[u]:=List.length_eq_one_iff.1 u1;have hu:a.eval x=u:=by
  simp only[Bool.false_eq_true,if_false] at u4;exact(List.cons.inj u4).1.symm
 have hone:u.oneCell'=true:=u2 u (by simp);have hdu:d.rd (Imm P0 B (ZAV b T2 ds::hp)) w u:=by rw[hu] at hd;exact hd
 have hkc:k<cs.length:=by omega
 have hset:=setCell_eq_setRow w b k cs.toArray T2 (0,0) u c1;have hc:w.cell? ⟨b,k,none⟩=some cs[k]:=by simp[World.cell?,c1,hkc]
 have hfz:w.frozen? ⟨b,k,none⟩=false:=by simp[World.frozen?,c1]
 have hst:(store ((⟨b,k,none⟩:Addr).add 0) u).run P w = .ok () (w.setCell ⟨b,k,none⟩ u):=by
  rw[show((⟨b,k,none⟩:Addr).add 0)=⟨b,k,none⟩ from rfl,run_store P w _ u _ hone,hc];simp[hfz]
 have hsz:(sizeOf T1).run P w = .ok 1 w:=by
  have h5:=T'.size;cases hq:P.info? T1 with
  | none=>rw[hq] at h5;cases h5
  | some i =>
   rw[hq] at h5;have:i.size=1:=by simpa using h5
   rw[<- this];rw[run_sizeOf w hq];simp[Program.cellsOf,hq]
 have hw:w.setCell ⟨b,k,none⟩ u=w.setRow b (cs.set k u).toArray:=by rw[hset];simp
 have hrun:(execOp a.eval ⟨dst,.store T1 (.tmp t) x,ty,ps,af,none⟩).run P w = .ok .skip (w.setRow b (cs.set k u).toArray):=by
  rw[<- hw];unfold execOp;simp only[h1,hu,Instr.storeAt,Instr.sureAddr,storeVar,Sem.run_bind,hsz,Result.andThen_ok,Sem.run_pure];simp[ZC6 hone,storeCells,hst]
 refine ZBe rfl fun K hK=>?_;unfold Oper.wp;rw[hrun];have hgr:w.grownBy (w.setRow b (cs.set k u).toArray) (ZAV b T2 ds).blk:=ZAM;have hok:(ZAV b T2 (ds.set k d)).ok (fun j=>Imm P0 B (ZAV b T2 ds::hp) j/\j<w.heap.size) (w.setRow b (cs.set k u).toArray):=by
  refine⟨cs.set k u,setRow_heap w b _ _ _ _ c1,by simp[c2],fun c hc=>?_,fun j c e hc he=>?_⟩
  ·rcases List.mem_or_eq_of_mem_set hc with hc|rfl
   ·exact c3 c hc
   ·exact hone
  ·rw[List.getElem?_set] at hc he;by_cases hjk:k=j
   ·rw[if_pos hjk,if_pos (by omega)] at hc he;cases hc;cases he;exact d.grown (d.bound hdu) hgr fun j q hj=>hj.1.2 (ZAV b T2 ds) (by simp) q
   ·rw[if_neg hjk] at hc he;exact e.grown (e.bound (c4 j c e hc he)) hgr fun j q hj=>hj.1.2 (ZAV b T2 ds) (by simp) q
 exact hK _ _ (h.on (hh.write hgr (.inl rfl) hok) (Fr.put (hf.mono fun _ _ hd=>Zd (o':=ZAV b T2 (ds.set k d)) hgr (.inl rfl) hd) (d:=dX undef) rfl))
end
end I
end
section
open Go.RowKit
section
variable {P:Program} {ops:Array Oper} {hp:List HObj} {fr:List Dat} {Q:Z4} {rest:List Oper} {c:Code} {d:Dat} {α:Type} {R:Rel α} {e:TypeId}
structure CapH (hp:List HObj) (v:Value) (d:Dat):Prop where
 out:∀ {P0:Nat->Prop} {B:Nat} {w0 w:World},Hp P0 B w0 hp w->d.rd anyB w v
theorem CapH.map {K V:Type} {kv:K->Value} {vv:V->Value} {R:Rel V} [Good R] {M:List (K × V)} {b m:Nat} {T:TypeId} (h1:Zm b T 1 false (dX (.map (some m)))∈hp) (h2:hM m kv vv M∈hp) (hvv:∀I w (y:V),R I w (vv y) y) :
  CapH hp (.pointer (some ⟨b,0,none⟩)) (dP 1 false (dS (ZF4 kv R) M)):=CapH.mk fun {P0 B w0 w} hh=>by
 obtain⟨cs,u,c1,c2,c0,c3,c4,c5⟩:=hh.ok _ h1;have hu:u = .map (some m):=c5;have hb:w.heap[m]?=some (ZAb _):=hh.ok _ h2;refine⟨b,0,u,rfl,ZA6 c1 c2 c0 c3 c4 trivial,m,M.map fun p=>vv p.2,hu,trivial,by simp,?_,fun k q1 q2=>?_⟩
 ·rw[hb];congr 2;unfold ZAT;rw[List.zip_map',List.map_map];rfl
 ·simp only[List.getElem_map];exact hvv _ _ _
end
section
variable {P:Program} {ops:Array Oper} {hp:List HObj} {fr:List Dat} {d:Dat}
variable {dst:Option Tmp} {ty:TypeId} {ps:String} {af:Array Edge} {g:Option (Nat × Bool)} {t k e:TypeId} {z:Value} {K α:Type} [DecidableEq K] {kv:K->Value} {ok:K->Prop} {R:Rel α} {m:List (K × α)}
theorem ZJd [Good R] {x y:Operand} {v:K} {a0:α} (T:MapT P t k e z) (H:KeyT P k kv ok) (hx:OpD fr x (dS (ZF4 kv R) m)) (hy:OpD fr y d) (hd:IsV d (kv v)) (ho:ok v) (hok:∀p∈m,ok p.1) (hn:(m.map (·.1)).Nodup) (hz:∀I w,R I w z a0) :
  SY P ops hp ⟨dst,.lookup t x y true,ty,ps,af,g⟩ fr (dT [dS R ((Go.Proofs.YtofkoleingbbpaaGreatDoor.lookM m v).getD a0),dB (Go.Proofs.YtofkoleingbbpaaGreatDoor.lookM m v).isSome]):=ZWK fun {I w a} hon=>by
 obtain⟨b,us,h1,h2,h3,h4,h5⟩:=hx.get (by simp[Op.operands]) hon;have h6:=hd.is _ _ _ (hy.get (by simp[Op.operands]) hon);have hkeys:((m.map (·.1)).zip us).map (·.1)=m.map (·.1):=by rw[List.map_fst_zip];simp[h3]
 refine⟨.tuple #[((Go.Proofs.YtofkoleingbbpaaGreatDoor.lookM ((m.map (·.1)).zip us) v).map id).getD z,.bool (Go.Proofs.YtofkoleingbbpaaGreatDoor.lookM ((m.map (·.1)).zip us) v).isSome],?_,[((Go.Proofs.YtofkoleingbbpaaGreatDoor.lookM ((m.map (·.1)).zip us) v).map id).getD z,.bool (Go.Proofs.YtofkoleingbbpaaGreatDoor.lookM ((m.map (·.1)).zip us) v).isSome],rfl,rfl,fun i e x he hx=>?_⟩
 ·unfold execOp;simp only[h1,h6,Sem.run_bind,ZDF (vv:=id) T H (fun(p:K × Value) (hp:p∈(m.map (·.1)).zip us)=>by
   have:p.1∈m.map (·.1):=by rw[<- hkeys];exact List.mem_map_of_mem hp
   obtain⟨q,hq,he⟩:=List.mem_map.1 this;rw[<- he];exact hok q hq) (by rw[hkeys];exact hn) ho h4 true,Result.andThen_ok,Sem.run_pure]
  rfl
 ·rcases ZKO h3 v with ⟨e1,e2⟩|⟨j,j1,j2,e1,e2⟩
  ·match i,he,hx with
   | 0,he,hx=>cases he;cases hx;rw[e1,e2];exact hz I w
   | 1,he,hx=>cases he;cases hx;rw[e1,e2];rfl
  ·match i,he,hx with
   | 0,he,hx=>cases he;cases hx;rw[e1,e2];exact h5 j j1 j2
   | 1,he,hx=>cases he;cases hx;rw[e1,e2];rfl
theorem ZMy [Good R] {x y:Operand} {v:K} {a0:α} (T:MapT P t k e z) (H:KeyT P k kv ok) (hx:OpD fr x (dS (ZF4 kv R) m)) (hy:OpD fr y d) (hd:IsV d (kv v)) (ho:ok v) (hok:∀p∈m,ok p.1) (hn:(m.map (·.1)).Nodup) (hz:∀I w,R I w z a0) (hl:Go.Proofs.YtofkoleingbbpaaGreatDoor.lookM m v=none) :
  SY P ops hp ⟨dst,.lookup t x y true,ty,ps,af,g⟩ fr (dT [dS R a0,dB false]):=by
 have:=ZJd (ops:=ops) (hp:=hp) (dst:=dst) (ty:=ty) (ps:=ps) (af:=af) (g:=g) T H hx hy hd ho hok hn hz;rwa[hl] at this
theorem ZMz [Good R] {x y:Operand} {v:K} {a0 u:α} (T:MapT P t k e z) (H:KeyT P k kv ok) (hx:OpD fr x (dS (ZF4 kv R) m)) (hy:OpD fr y d) (hd:IsV d (kv v)) (ho:ok v) (hok:∀p∈m,ok p.1) (hn:(m.map (·.1)).Nodup) (hz:∀I w,R I w z a0) (hl:Go.Proofs.YtofkoleingbbpaaGreatDoor.lookM m v=some u) :
  SY P ops hp ⟨dst,.lookup t x y true,ty,ps,af,g⟩ fr (dT [dS R u,dB true]):=by
 have:=ZJd (ops:=ops) (hp:=hp) (dst:=dst) (ty:=ty) (ps:=ps) (af:=af) (g:=g) T H hx hy hd ho hok hn hz;rwa[hl] at this
end
end
section
def insS:List (Vx × List Vx)->Vx->List Vx->List (Vx × List Vx)
 | [],v,c=>[(v,c)]
 | (x,a)::d,v,c=>if ZAW v x<0 then(v,c)::(x,a)::d else(x,a)::insS d v c
def putS (d:List (Vx × List Vx)) (v:Vx) (c:List Vx):List (Vx × List Vx):=if v∈d.map (·.1) then d else insS d v c
def atB (s:List Vx) (m:Nat):List Vx:=(s.zipIdx.filter fun p=>decide ((m >>> p.2) &&& 1=1)).map (·.1)
end
section
open Go.RowKit

theorem zip_snoc {s:List Vx} {k:Nat} (h:k<s.length):(s.take (k+1)).zipIdx=(s.take k).zipIdx++[(s[k],k)]:=by
 rw[List.take_succ_eq_append_getElem h,List.zipIdx_append];simp[Nat.min_eq_left (Nat.le_of_lt h)]
end
end Go.Proofs.YtofkoleingbbpaaGreatDoor
