/- Part 23: walks by contracts, and plain laws. -/
import Derived.Test.YtokmalofdapffaaGreatV22
set_option linter.unusedVariables false
set_option linter.unusedSimpArgs false
set_option linter.unusedSectionVars false
set_option maxRecDepth 100000
set_option maxHeartbeats 4000000
namespace Go.Proofs.YtokmalofdapffaaGreat
section
open Go.RowKit
def ZDl (md:Region.Mode) (ops:Array Oper) (n:Nat):Bool :=
 (List.range ops.size).all fun t=>decide (t≤n) || (List.range ops.size).any fun s=>decide (n≤s) && Region.waitsFor md ops t s
theorem ZCp {md:Region.Mode} {ops:Array Oper} {n:Nat} {listed:Array Bool} (hs:Region.sinkB md ops n=true) (hc:ZDl md ops n=true) (hn:n<ops.size) (inv:HeadInv md ops n listed) :
  ∀ (d i:Nat),n-i=d->i<n->listed.getD i true=false->∀ t,n≤t->t∉Region.ready md ops listed:=by
 intro d
 induction d using Nat.strongRecOn with
 | _ d ih =>
  intro i hd hi hun t ht hr
  obtain ⟨_,ot,hot,hall⟩:=mem_ready.1 hr
  have htlt:t<ops.size:=(Array.getElem?_eq_some_iff.1 hot).1
  by_cases htn:t=n
  ·subst htn
   have h1:=List.all_eq_true.1 hs i (List.mem_range.2 hi)
   obtain ⟨j,hj,hj2⟩:=List.any_eq_true.1 h1
   simp only [Bool.and_eq_true,decide_eq_true_eq] at hj2
   obtain ⟨oj,hoj,e,he,hb,hon⟩:=Region.waitsFor_spec hj2.2
   have hjle:j≤t:=by have:=List.mem_range.1 hj;omega
   by_cases hjt:j=t
   ·subst hjt
    have:oj=ot:=Option.some.inj (hoj.symm.trans hot)
    subst this
    have h2:=hall e he hb
    rw [hon,getD_both hun] at h2
    cases h2
   ·cases hl:listed.getD j false with
    | true =>
     have h2:=inv.closed j oj hoj hl e he hb
     rw [hon,getD_both hun] at h2
     cases h2
    | false =>
     have hjs:j<listed.size:=by rw [inv.size];omega
     exact ih (t-j) (by omega) j rfl (by omega) (getD_in hjs hl) t (Nat.le_refl _) hr
  ·have h1:=List.all_eq_true.1 hc t (List.mem_range.2 htlt)
   simp only [Bool.or_eq_true,decide_eq_true_eq] at h1
   rcases h1 with h1|h1
   ·omega
   ·obtain ⟨s,hsr,hsw⟩:=List.any_eq_true.1 h1
    simp only [Bool.and_eq_true,decide_eq_true_eq] at hsw
    obtain ⟨o',ho',e,he,hb,hon⟩:=Region.waitsFor_spec hsw.2
    have:o'=ot:=Option.some.inj (ho'.symm.trans hot)
    subst this
    have h2:=hall e he hb
    rw [hon,getD_both (inv.tail s hsw.1 (List.mem_range.1 hsr))] at h2
    cases h2
section
variable {P:Program} {ops:Array Oper} {md:Region.Mode} {fr fr':List Dat} {hp:List HObj} {C:List HObj->Prop}
def sOpM (P:Program) (ops:Array Oper) (C:List HObj->Prop) (i:Nat) (K:List Dat->List HObj->Prop) (fr:List Dat) (hp:List HObj):Prop :=
 ∃ o,ops[i]?=some o/\((∃ d,(∀ hp',C hp'->SYG P ops hp' o fr d)/\K (ZB fr o.dst d) hp) \/
  ∃ (β:Type) (H:β->List HObj) (D:β->Dat),SW P ops hp H D o fr/\(∀ x,C (H x))/\∀ x,K (ZB fr o.dst (D x)) (H x))
def ZF1 (P:Program) (md:Region.Mode) (ops:Array Oper) (C:List HObj->Prop) (n:Nat) (L:Array Bool->List Dat->List HObj->Prop):Nat->Array Bool->List Dat->List HObj->Prop
 | 0,listed,fr,hp=>L listed fr hp
 | f+1,listed,fr,hp =>
  Region.ready md ops listed≠[]/\∀ i∈Region.ready md ops listed,i<n/\sOpM P ops C i (ZF1 P md ops C n L f (listed.setIfInBounds i true)) fr hp
theorem ZCP {n g:Nat} {L:Array Bool->List Dat->List HObj->Prop} {Q':Exit->Act->World->Prop} {P0:Nat->Prop} {B:Nat} {w0:World}:∀ (f:Nat) (listed:Array Bool) (fr:List Dat) (hp:List HObj) (a:Act) (w:World),C hp->Hp P0 B w0 hp w->Fr (Imm P0 B hp) w a fr ->
  (∀ listed fr hp a w',Hp P0 B w0 hp w'->Fr (Imm P0 B hp) w' a fr->L listed fr hp->wpAny P md ops Q' g listed a w')->ZF1 P md ops C n L f listed fr hp->wpAny P md ops Q' (f+g) listed a w
 | 0,listed,fr,hp,a,w,_,hh,hf,hL,h=>by rw [Nat.zero_add];exact hL _ _ _ _ _ hh hf h
 | f+1,listed,fr,hp,a,w,hc,hh,hf,hL,h=>by
  rw [show f+1+g=(f+g)+1 by omega]
  refine ⟨fun h0=>absurd h0 h.1,fun i hi=>?_⟩
  obtain ⟨o,ho,h1⟩:=(h.2 i hi).2
  unfold wpOp
  simp only [ho]
  rcases h1 with ⟨d,hs,hk⟩|⟨β,H,D,hw,hC,hk⟩
  ·have:=(hs hp hc).step (Q:=Q') hh hf (K:=wpAny P md ops Q' (f+g) (listed.setIfInBounds i true)) fun a' w' e hf'=>ZCP f _ _ hp _ _ hc (hh.ext e) hf' hL hk
   split
   ·rename_i hw;rw [if_pos hw] at this;exact .inl this
   ·rename_i hw;rw [if_neg hw] at this;exact this
  ·have hwant:Region.wanted o (yielded ops a.tmps)=true:=by simp [Region.wanted,hw.guard]
   rw [if_pos hwant]
   exact .inl (hw.out hh (hf.on _) _ _ fun x v w' hh' hrd hd=>ZCP f _ _ (H x) _ _ (hC x) hh' (Fr.put (hf.mono fun d u hu=>hrd d u hu) hd) hL (hk x))
theorem ZJH {n i:Nat} {oi:Oper} {di:Dat} {L:Array Bool->List Dat->List HObj->Prop} (hi:ops[i]?=some oi)
  (hs:Region.sinkB md ops n=true) (hc:ZDl md ops n=true) (hn:n<ops.size) (hin:i<n)
  (hdone:∀ listed a c,L listed a c->∀ j∈Region.ready md ops listed,n≤j) :
  ∀ (f:Nat) (listed:Array Bool) (fr:List Dat) (hp:List HObj),HeadInv md ops n listed ->
   (∀ j oj,ops[j]?=some oj->j≠i->listed.getD j true=false->(∀ e∈oj.after,Region.binds md e=true->e.on≠i)->oi.apart ops oj=true) ->
   i∈Region.ready md ops listed->(∀ hp',C hp'->SYG P ops hp' oi fr di) ->
   ZF1 P md ops C n L f (listed.setIfInBounds i true) (ZB fr oi.dst di) hp->ZF1 P md ops C n L (f+1) listed fr hp:=by
 intro f
 induction f with
 | zero =>
  intro listed fr hp inv _ hr hy H
  have hun:=(mem_ready.1 hr).1
  refine ⟨fun h=>(by rw [h] at hr;cases hr),fun j hj=>?_⟩
  have hjn:j<n:=by
   rcases Nat.lt_or_ge j n with h|h
   ·exact h
   ·exact absurd hj (ZCp hs hc hn inv _ i rfl hin hun j h)
  refine ⟨hjn,?_⟩
  by_cases hji:j=i
  ·subst hji;exact ⟨oi,hi,.inl ⟨di,hy,H⟩⟩
  ·have:=hdone _ _ _ H j (ready_mono hj hji)
   omega
 | succ f ih =>
  intro listed fr hp inv hfree hr hy H
  have hun:=(mem_ready.1 hr).1
  refine ⟨fun h=>(by rw [h] at hr;cases hr),fun j hj=>?_⟩
  have hjn:j<n:=by
   rcases Nat.lt_or_ge j n with h|h
   ·exact h
   ·exact absurd hj (ZCp hs hc hn inv _ i rfl hin hun j h)
  refine ⟨hjn,?_⟩
  by_cases hji:j=i
  ·subst hji;exact ⟨oi,hi,.inl ⟨di,hy,H⟩⟩
  ·obtain ⟨oj',hoj',h1⟩:=(H.2 j (ready_mono hj hji)).2
   obtain ⟨hjun,oj,hoj,hall⟩:=mem_ready.1 hj
   have hoo:oj=oj':=by rw [hoj] at hoj';simpa using hoj'
   subst hoo
   have hnot:∀ e∈oj.after,Region.binds md e=true->e.on≠i:=fun e he hb heq=>by
    have h1:=hall e he hb
    rw [heq,getD_both hun] at h1
    cases h1
   obtain ⟨a1,a2,a3⟩:=Oper.apart_spec (hfree j oj hoj hji hjun hnot)
   have hfree':∀ k ok,ops[k]?=some ok->k≠i->(listed.setIfInBounds j true).getD k true=false ->
     (∀ e∈ok.after,Region.binds md e=true->e.on≠i)->oi.apart ops ok=true:=fun k ok hk hki hun hno=>by
    refine hfree k ok hk hki ?_ hno
    by_cases hjk:j=k
    ·subst hjk;exact hjun
    ·rw [getD_set_ne true hjk] at hun;exact hun
   have key:∀ (d:Dat) (hp':List HObj),ZF1 P md ops C n L f ((listed.setIfInBounds i true).setIfInBounds j true) (ZB (ZB fr oi.dst di) oj.dst d) hp' ->
     ZF1 P md ops C n L (f+1) (listed.setIfInBounds j true) (ZB fr oj.dst d) hp':=fun d hp' hk=>by
    refine ih (listed.setIfInBounds j true) (ZB fr oj.dst d) hp' (inv.set hj hjn) hfree' (ready_mono hr (Ne.symm hji)) (fun c hc=>(hy c hc).same (ZAA _ _ _) fun t ht=>ZAR fun e=>a3 t e ht) ?_
    rw [Array.setIfInBounds_comm _ _ hji,<- ZDC fr di d a2]
    exact hk
   refine ⟨oj,hoj,?_⟩
   rcases h1 with ⟨d,hs',hk⟩|⟨β,H',D,hw,hC,hk⟩
   ·exact .inl ⟨d,fun c hc=>(hs' c hc).same (ZAA _ _ _).symm fun t ht=>(ZAR fun e=>a1 t e ht).symm,key _ _ hk⟩
   ·exact .inr ⟨β,H',D,hw.same (ZAA _ _ _).symm fun t ht=>(ZAR fun e=>a1 t e ht).symm,hC,fun x=>key _ _ (hk x)⟩
def ZL2 (md:Region.Mode) (ops:Array Oper) (n:Nat):List (Nat × Bool)->Array Bool->Bool
 | [],listed=>(Region.ready md ops listed).all fun j=>decide (n≤j)
 | (i,false)::r,listed=>decide (i<n) && (Region.ready md ops listed).contains i && Region.free md ops listed i && ZL2 md ops n r (listed.setIfInBounds i true)
 | (i,true)::r,listed=>decide (i<n) && decide (Region.ready md ops listed=[i]) && ZL2 md ops n r (listed.setIfInBounds i true)
inductive WM (P:Program) (ops:Array Oper) (C:List HObj->Prop) (Q:List Dat->List HObj->Prop):List (Nat × Bool)->List Dat->List HObj->Prop
 | nil {fr:List Dat} {hp:List HObj}:Q fr hp->WM P ops C Q [] fr hp
 | read {i:Nat} {o:Oper} {r:List (Nat × Bool)} {fr:List Dat} {hp:List HObj} {d:Dat}:ops[i]?=some o->(∀ hp',C hp'->SYG P ops hp' o fr d)->WM P ops C Q r (ZB fr o.dst d) hp->WM P ops C Q ((i,false)::r) fr hp
 | write {i:Nat} {o:Oper} {r:List (Nat × Bool)} {fr:List Dat} {hp:List HObj} {β:Type} {H:β->List HObj} {D:β->Dat}:ops[i]?=some o->SW P ops hp H D o fr->(∀ x,C (H x))->(∀ x,WM P ops C Q r (ZB fr o.dst (D x)) (H x))->WM P ops C Q ((i,true)::r) fr hp
theorem ZEl {n:Nat} {Q:List Dat->List HObj->Prop} (hs:Region.sinkB md ops n=true) (hc:ZDl md ops n=true) (hn:n<ops.size) :
  ∀ (l:List (Nat × Bool)) (listed:Array Bool) (fr:List Dat) (hp:List HObj),HeadInv md ops n listed->ZL2 md ops n l listed=true->WM P ops C Q l fr hp ->
  ZF1 P md ops C n (fun listed' f p=>(∀ j∈Region.ready md ops listed',n≤j)/\listed'=l.foldl (fun s p=>s.setIfInBounds p.1 true) listed/\Q f p) l.length listed fr hp
 | [],listed,fr,hp,_,hB,h=>by
  cases h
  rename_i h
  refine ⟨fun j hj=>?_,rfl,h⟩
  simp only [ZL2,List.all_eq_true,decide_eq_true_eq] at hB
  exact hB j hj
 | (i,false)::r,listed,fr,hp,inv,hB,h=>by
  cases h
  rename_i o d ho hy hk
  simp only [ZL2,Bool.and_eq_true,decide_eq_true_eq] at hB
  obtain ⟨⟨⟨hin,hr⟩,hf⟩,hB'⟩:=hB
  have hr':i∈Region.ready md ops listed:=by simpa using hr
  exact ZJH ho hs hc hn hin (fun _ _ _ hL=>hL.1) r.length listed fr hp inv (Region.free_spec ho hf) hr' hy
   (ZEl hs hc hn r _ _ _ (inv.set hr' hin) hB' hk)
 | (i,true)::r,listed,fr,hp,inv,hB,h=>by
  simp only [ZL2,Bool.and_eq_true,decide_eq_true_eq] at hB
  obtain ⟨⟨hin,hr⟩,hB'⟩:=hB
  have hr':i∈Region.ready md ops listed:=by rw [hr];simp
  cases h with
  | write ho hw hC hk =>
   refine ⟨fun h0=>(by rw [hr] at h0;cases h0),fun j hj=>?_⟩
   rw [hr] at hj
   cases List.mem_singleton.1 hj
   exact ⟨hin,_,ho,.inr ⟨_,_,_,hw,hC,fun x=>ZEl hs hc hn r _ _ _ (inv.set hr' hin) hB' (hk x)⟩⟩
theorem WC.drawM {id:Nat} {l:List Oper} {Q:ZAE} (C:List HObj->Prop) (n m:Nat) (ord:List (Nat × Bool)) (S:List Bool) (hm:P.follows .mixedOrders=true)
  (hB:(decide (n<l.toArray.size) && Region.sinkB .any l.toArray n && ZDl .any l.toArray n && ZL2 .any l.toArray n ord (Array.replicate l.toArray.size false))=true) (hS:ord.foldl (fun s p=>s.setIfInBounds p.1 true) (Array.replicate l.toArray.size false)=S.toArray) (hlen:l.length=ord.length+m) (hC:C hp)
  (h:WM P l.toArray C (fun f p=>WA P l.toArray Q m S f p) ord fr hp):WC P Q (.region id l.toArray true) fr hp:=by
 refine WC.of fun P0 B w0 w a hh hf=>?_
 simp only [Bool.and_eq_true,decide_eq_true_eq] at hB
 obtain ⟨⟨⟨hn,hs⟩,hc⟩,hord⟩:=hB
 have inv0:HeadInv .any l.toArray n (Array.replicate l.toArray.size false) :=
  ⟨by simp,fun j oj _ hl=>(by rw [getD_replicate_false] at hl;cases hl),fun t _ ht=>getD_in (by simpa using ht) (getD_replicate_false _ _)⟩
 have HW:=ZEl hs hc hn ord _ fr hp inv0 hord h
 have hx:Ext w { w with drawn:=w.drawn+1 }:=(Ext.refl w).drew
 refine wp_region_any hm ?_
 have:=ZCP (Q':=ZCN Q P0 B w0) (g:=m) _ _ _ hp _ _ hC (hh.ext hx) (hf.ext hx) (fun listed' fr' hp' a' w' hh' hf' hL=>by
  rw [hL.2.1,hS]
  exact hL.2.2.out _ _ _ _ _ hh' hf') HW
 rw [show l.toArray.size=ord.length+m by simpa using hlen]
 rw [show (l.toArray.size)=ord.length+m by simpa using hlen] at this
 exact this
theorem WM.readL {l:List Oper} {Q:List Dat->List HObj->Prop} {i:Nat} {o:Oper} {r:List (Nat × Bool)} {d:Dat} (ho:l[i]?=some o) (h:∀ hp',C hp'->SYG P l.toArray hp' o fr d) (k:WM P l.toArray C Q r (ZB fr o.dst d) hp):WM P l.toArray C Q ((i,false)::r) fr hp:=WM.read (by simpa using ho) h k
theorem ZAx {l:List Oper} {Q:List Dat->List HObj->Prop} {i:Nat} {o:Oper} {r:List (Nat × Bool)} {β:Type} {H:β->List HObj} {D:β->Dat} (ho:l[i]?=some o) (h:SW P l.toArray hp H D o fr) (hC:∀ x,C (H x)) (k:∀ x,WM P l.toArray C Q r (ZB fr o.dst (D x)) (H x)):WM P l.toArray C Q ((i,true)::r) fr hp:=WM.write (by simpa using ho) h hC k
theorem WM.id {Q:List Dat->List HObj->Prop} {r:List (Nat × Bool)} (h:WM P ops C Q r fr hp):WM P ops C Q r fr hp:=h
end
end
section
open Go.RowKit
abbrev hIt (b r n:Nat) (seen:Array Nat):HObj:=Z2 r (.mapIter (some b) n seen n)
section
variable {P:Program} {w:World}
theorem ZEH {r:Nat} {a:Option Nat} {b:Nat} {c:Array Nat} {d:Nat} (h:w.heap[r]?=some (.mapIter a b c d)):(getObj r).run P w = .ok (.mapIter a b c d) w:=by simp [getObj,Sem.run,h]
theorem ZHl {r:Nat} {a:Option Nat} {b:Nat} {c:Array Nat} {d:Nat} (o':Obj) (h:w.heap[r]?=some (.mapIter a b c d)):(setObj r o').run P w = .ok () (w.putObj r o'):=by simp [setObj,Sem.run,h,World.putObj]
theorem ZI7 {ty:TypeId} {b r since c0 clock:Nat} {seen:Array Nat} {es:Array MapEntry} (hb:w.heap[b]?=some (.map es clock)) (hr:w.heap[r]?=some (.mapIter (some b) since seen c0)) (hold:∀ x∈es.toList,x.born<since) (hsc:since≤c0) :
  ((leftOf es seen).size=0/\(Instr.next (.pointer (some ⟨r,0,none⟩)) false ty).run P w = .ok (.tuple #[.bool false]) w) \/
  ∃ e∈(leftOf es seen).toList,∃ w1:World,(w1=w\/w1=w.drew)/\(Instr.next (.pointer (some ⟨r,0,none⟩)) false ty).run P w = .ok (.tuple #[.bool true,e.key,e.val]) (w1.putObj r (.mapIter (some b) since (seen.push e.born) clock)):=by
 simp only [Instr.next,Sem.run_bind,ZEH hr,MapKept.run_getObj_map hb,Result.andThen,next_test_false seen es since c0 hold hsc,Bool.false_eq_true,if_false]
 unfold leftOf
 have hmem:∀ x∈(Array.filter (fun e=>!seen.contains e.born) es).toList,x.born<since:=fun x hx=>hold x (by simp at hx ⊢;exact hx.1)
 generalize Array.filter (fun e=>!seen.contains e.born) es=L at hmem ⊢
 have e1:L.filter (fun x=>decide (x.born<since))=L:=Array.filter_eq_self.2 (fun x hx=>by simpa using hmem x (by simpa using hx))
 have e2:L.filter (fun x=>decide (x.born ≥ since))=#[]:=by
  rw [Array.filter_eq_empty_iff]
  intro x hx
  have:=hmem x (by simpa using hx)
  simp
  omega
 simp only [e1,e2,Array.append_empty]
 by_cases h0:L.size=0
 ·left
  have:L=#[]:=Array.eq_empty_of_size_eq_zero h0
  subst this
  refine ⟨rfl,?_⟩
  simp [choose,Sem.run,Question.forced]
 ·right
  have hne:L.isEmpty=false:=by simp [Array.isEmpty,h0]
  simp only [hne,Bool.false_eq_true,if_false,Array.empty_append,Array.size_map]
  have hch:∃ (j:Nat) (w1:World),j<L.size/\(w1=w\/w1=w.drew)/\(choose (Question.mapNext L.size)).run P w = .ok j w1:=by
   by_cases hf:L.size≤1
   ·exact ⟨0,w,by omega,.inl rfl,by simp [choose,Sem.run,Question.forced,hf]⟩
   ·exact ⟨_,w.drew,Nat.mod_lt _ (by omega),.inr rfl,by
     simp only [choose,Sem.run,Question.forced,decide_eq_true_eq,hf,if_false,Question.cut]
     rfl⟩
  obtain ⟨j,w1,hj,hal,hrun⟩:=hch
  refine ⟨L[j],by simp,w1,hal,?_⟩
  have hr1:w1.heap[r]?=some (.mapIter (some b) since seen c0):=by rcases hal with rfl|rfl <;> exact hr
  simp only [hrun,Array.getElem?_map,Array.getElem?_eq_getElem hj,Option.map_some,Sem.run_bind,ZHl _ hr1,Result.andThen]
  rfl
end
section
variable {P:Program} {ops:Array Oper} {hp:List HObj} {o:Oper} {fr:List Dat} {d d2:Dat} {Q:ZAE} {rest:List Oper}
variable {dst:Option Tmp} {ty:TypeId} {ps:String} {af:Array Edge} {g:Option (Nat × Bool)} {t k e:TypeId} {z:Value} {K V:Type} {kv:K->Value} {ok:K->Prop} {vv:V->Value} {b r:Nat} {m:List (K × V)} {seen:Array Nat}
theorem ZMU {x:Operand} (T:MapT P t k e z) (hx:OpD fr x (dX (.map (some b)))) (hm:hM b kv vv m∈hp)
  (h:∀ r,WL P ops Q rest (ZB fr dst (dX (.pointer (some ⟨r,0,none⟩)))) (hIt b r m.length #[]::hp)) :
  WL P ops Q (⟨dst,.range t x,ty,ps,af,none⟩::rest) fr hp:=by
 refine WL.of fun P0 B w0 w a hh hf=>?_
 have h1:a.eval x=_:=hx.ev hf
 have hb:w.heap[b]?=some (.map (ZR 0 (ZAP kv vv m)).toArray (ZAP kv vv m).length):=hh.ok _ hm
 have hl:(ZAP kv vv m).length=m.length:=by simp [ZAP]
 rw [hl] at hb
 have hrun:(execOp a.eval ⟨dst,.range t x,ty,ps,af,none⟩).run P w = .ok (.value (.pointer (some ⟨w.heap.size,0,none⟩))) (w.alloc (.mapIter (some b) m.length #[] m.length)):=by
  unfold execOp
  simp only [h1,Sem.run_bind,run_range_map w t k e b _ _ T.under hb,Result.andThen_ok,Sem.run_pure]
 refine Zi rfl hrun ?_
 have hx:=Ext.of_alloc w (.mapIter (some b) m.length #[] m.length)
 have hb:∀ k,(hIt b w.heap.size m.length #[]).blk=some k->w.heap.size≤k/\k<(w.alloc (.mapIter (some b) m.length #[] m.length)).heap.size:=fun k hk=>by
  cases hk
  exact ⟨Nat.le_refl _,by simp⟩
 refine (h w.heap.size).on (hh.push hx hb (Zx w _)) ?_
 exact Fr.put (hf.mono fun d _ hd=>Z8 hx (fun k hk=>(hb k hk).1) hd) rfl
theorem ZPE {x:Operand} (hx:OpD fr x (dX (.pointer (some ⟨r,0,none⟩)))) (hm:hM b kv vv m∈hp)
  (h1:(∀ j,j<m.length->j∈seen)->WL P ops Q rest (ZB fr dst (dT [dB false])) (hIt b r m.length seen::hp))
  (h2:∀ (j:Nat) (hj:j<m.length),j∉seen->WL P ops Q rest (ZB fr dst (dT [dB true,dX (kv m[j].1),dX (vv m[j].2)])) (hIt b r m.length (seen.push j)::hp)) :
  WL P ops Q (⟨dst,.next x false,ty,ps,af,none⟩::rest) fr (hIt b r m.length seen::hp):=by
 refine WL.of fun P0 B w0 w a hh hf=>?_
 have e1:a.eval x=_:=hx.ev hf
 have hl:(ZAP kv vv m).length=m.length:=by simp [ZAP]
 have hb:w.heap[b]?=some (.map (ZR 0 (ZAP kv vv m)).toArray (ZAP kv vv m).length):=hh.ok (hM b kv vv m) (List.mem_cons_of_mem _ hm)
 rw [hl] at hb
 have hr:w.heap[r]?=some (.mapIter (some b) m.length seen m.length):=hh.ok (hIt b r m.length seen) (by simp)
 have hlen:(ZR 0 (ZAP kv vv m)).length=m.length:=by rw [Z5,hl]
 have hat:∀ (i:Nat) (h:i<m.length),(ZR 0 (ZAP kv vv m))[i]'(by rw [hlen];exact h)=⟨kv m[i].1,vv m[i].2,i⟩:=fun i h=>by
  rw [ZAi _ _ _ (by rw [hl];exact h)]
  simp [ZAP]
 have hold:∀ x∈((ZR 0 (ZAP kv vv m)).toArray).toList,x.born<m.length:=fun x hx=>by
  obtain ⟨i,hi,rfl⟩:=List.getElem_of_mem (by simpa using hx:x∈ZR 0 (ZAP kv vv m))
  rw [hlen] at hi
  rw [hat i hi];exact hi
 rcases ZI7 (P:=P) (ty:=ty) hb hr hold (Nat.le_refl _) with ⟨hleft,hrun⟩|⟨en,hen,w1,hw1,hrun⟩
 ·have hr':(execOp a.eval ⟨dst,.next x false,ty,ps,af,none⟩).run P w = .ok (.value (.tuple #[.bool false])) w:=by
   unfold execOp
   simp only [e1,Sem.run_bind,hrun,Result.andThen_ok,Sem.run_pure]
  refine Zi rfl hr' ?_
  refine (h1 fun j hj=>?_).on hh (Fr.put hf ⟨[.bool false],rfl,rfl,fun i e x he hx=>by
   match i,he,hx with
   | 0,he,hx=>cases he;cases hx;rfl⟩)
  have h0:leftOf (ZR 0 (ZAP kv vv m)).toArray seen=#[]:=Array.eq_empty_of_size_eq_zero hleft
  unfold leftOf at h0
  rw [Array.filter_eq_empty_iff] at h0
  have hmem:(ZR 0 (ZAP kv vv m))[j]'(by rw [hlen];exact hj)∈(ZR 0 (ZAP kv vv m)).toArray:=by simp
  have:=h0 _ hmem
  rw [hat j hj] at this
  simpa using this
 ·have hen':en∈ZR 0 (ZAP kv vv m)/\en.born∉seen:=by
   unfold leftOf at hen
   simpa using hen
  obtain ⟨hen1,hen2⟩:=hen'
  obtain ⟨j,hj,rfl⟩:=List.getElem_of_mem hen1
  rw [hlen] at hj
  rw [hat j hj] at hrun hen2
  have hr':(execOp a.eval ⟨dst,.next x false,ty,ps,af,none⟩).run P w = .ok (.value (.tuple #[.bool true,kv m[j].1,vv m[j].2])) (w1.putObj r (.mapIter (some b) m.length (seen.push j) m.length)):=by
   unfold execOp
   simp only [e1,Sem.run_bind,hrun,Result.andThen_ok,Sem.run_pure]
  refine Zi rfl hr' ?_
  have hx1:Ext w w1:=by
   rcases hw1 with rfl|rfl
   ·exact Ext.refl _
   ·exact (Ext.refl _).drew
  have hT:∀ {I:Nat->Prop} {w:World},(dT [dB true,dX (kv m[j].1),dX (vv m[j].2)]).rd I w (.tuple #[.bool true,kv m[j].1,vv m[j].2]):=⟨[.bool true,kv m[j].1,vv m[j].2],rfl,rfl,fun i e x he hx=>by
   match i,he,hx with
   | 0,he,hx=>cases he;cases hx;rfl
   | 1,he,hx=>cases he;cases hx;rfl
   | 2,he,hx=>cases he;cases hx;rfl⟩
  exact (h2 j hj hen2).on (Hp.putObj (hh.ext hx1)) (Fr.put ((hf.ext hx1).mono fun _ _ hd=>ZAO hd) hT)
theorem ZMF {x:Operand} {j:Nat} (hx:OpD fr x (dX (.pointer (some ⟨r,0,none⟩)))) (hi:hIt b r m.length (seen.push j)∈hp) (hm:hM b kv vv m∈hp) (hj:j<m.length) :
  SY P ops hp ⟨dst,.entry x,ty,ps,af,g⟩ fr (dT [dX (kv m[j].1),dX (vv m[j].2)]):=ZAn fun {P0 B w0 w a} hh hon=>by
 have e1:a.eval x=_:=hx.get (by simp [Op.operands]) hon
 have hl:(ZAP kv vv m).length=m.length:=by simp [ZAP]
 have hb:w.heap[b]?=some (.map (ZR 0 (ZAP kv vv m)).toArray (ZAP kv vv m).length):=hh.ok (hM b kv vv m) hm
 rw [hl] at hb
 have hr:w.heap[r]?=some (.mapIter (some b) m.length (seen.push j) m.length):=hh.ok (hIt b r m.length (seen.push j)) hi
 have hlen:(ZR 0 (ZAP kv vv m)).length=m.length:=by rw [Z5,hl]
 have hat:∀ (i:Nat) (h:i<m.length),(ZR 0 (ZAP kv vv m))[i]'(by rw [hlen];exact h)=⟨kv m[i].1,vv m[i].2,i⟩:=fun i h=>by
  rw [ZAi _ _ _ (by rw [hl];exact h)]
  simp [ZAP]
 have hf:(ZR 0 (ZAP kv vv m)).toArray.find? (·.born == j)=some ⟨kv m[j].1,vv m[j].2,j⟩:=by
  rw [<- Array.find?_toList]
  rw [List.find?_eq_some_iff_getElem]
  refine ⟨by simp,j,by simp;rw [hlen];exact hj,by simpa using hat j hj,fun i hi=>?_⟩
  have:=hat i (by omega)
  simp [this];omega
 refine ⟨.tuple #[kv m[j].1,vv m[j].2],w,?_,Ext.refl _,[kv m[j].1,vv m[j].2],rfl,rfl,fun i e x he hx=>?_⟩
 ·unfold execOp
  have:(Instr.entry (.pointer (some ⟨r,0,none⟩))).run P w = .ok (.tuple #[kv m[j].1,vv m[j].2]) w:=by
   simp only [Instr.entry,Sem.run_bind,ZEH hr,MapKept.run_getObj_map hb,Result.andThen,Array.back?_push,bne_self_eq_false,Bool.false_eq_true,if_false,hf]
   rfl
  simp only [e1,Sem.run_bind,this,Result.andThen_ok,Sem.run_pure]
 ·match i,he,hx with
  | 0,he,hx=>cases he;cases hx;rfl
  | 1,he,hx=>cases he;cases hx;rfl
end
end
section
open Go.RowKit
section
variable {P:Program} {ops:Array Oper} {hp:List HObj} {o:Oper} {fr:List Dat} {d d2:Dat} {Q:ZAE} {rest:List Oper}
variable {dst:Option Tmp} {ty:TypeId} {ps:String} {af:Array Edge} {t k e:TypeId} {z:Value} {K V:Type} [DecidableEq K] {kv:K->Value} {ok:K->Prop} {vv:V->Value} {b r:Nat} {m:List (K × V)}
theorem rd_t2 {I:Nat->Prop} {w:World} (u:Value) (n:Int):(dT [dX u,dI n]).rd I w (.tuple #[u,.int .i64 n]):=⟨[u,.int .i64 n],rfl,rfl,fun i e x he hx=>by
 match i,he,hx with
 | 0,he,hx=>cases he;cases hx;rfl
 | 1,he,hx=>cases he;cases hx;rfl⟩
theorem ZMA {x y:Operand} {v:K} {q:Nat} (T:MapT P t k e z) (H:KeyT P k kv ok) (hx:OpD fr x (dX (.map (some b)))) (hy:OpD fr y d) (hd:IsV d (kv v)) (ho:ok v) (hok:∀ p∈m,ok p.1) (hn:(m.map (·.1)).Nodup) (hq:q<m.length) (hqv:m[q].1=v) (zv:V) (hz:vv zv=z) :
  SW P ops (hM b kv vv m::hp) (fun _:Unit=>hM b kv vv m::hp) (fun _=>dT [dX (vv m[q].2),dI q]) ⟨dst,.mapEntry t x y,ty,ps,af,none⟩ fr:=⟨rfl,fun {P0 B w0 w a} hh hon KK QQ hkk=>by
 have e1:a.eval x=_:=hx.get (by simp [Op.operands]) hon
 have e2:=hd.is _ _ _ (hy.get (by simp [Op.operands]) hon)
 rcases ZI6 T H hok ho (hh.ok (hM b kv vv m) (by simp)) with ⟨j,hj,hjv,hr⟩|⟨hne,hr⟩
 ·have hjq:j=q:=by
   have hp:=List.pairwise_iff_getElem.1 hn
   have a1:j<(m.map (·.1)).length:=by simpa using hj
   have a2:q<(m.map (·.1)).length:=by simpa using hq
   have h3:(m.map (·.1))[j]=(m.map (·.1))[q]:=by simp [hjv,hqv]
   rcases Nat.lt_trichotomy j q with h|h|h
   ·exact absurd h3 (hp j q a1 a2 h)
   ·exact h
   ·exact absurd h3.symm (hp q j a2 a1 h)
  subst hjq
  have hrun:(execOp a.eval ⟨dst,.mapEntry t x y,ty,ps,af,none⟩).run P w = .ok (.value (.tuple #[vv m[j].2,.int .i64 j])) (w.putObj b (ZAX (ZAP kv vv m))):=by
   unfold execOp
   simp only [e1,e2,Sem.run_bind,hr,Result.andThen_ok,Sem.run_pure]
   rfl
  unfold Oper.wp
  rw [hrun]
  exact hkk () _ _ (Hp.putObj hh) (fun d u hd=>ZAO hd) (rd_t2 _ _)
 ·exact absurd hqv (hne _ (List.getElem_mem hq))⟩
end
end
section
open Go.RowKit

abbrev vvI (n:Int):Value:=.int .i64 n
theorem ZP8 (M:ZLH) (f:List Vx):((lookM M f).map vvI).getD (.int .i64 0) = .int .i64 ((lookM M f).getD 0):=by cases lookM M f <;> rfl
end
section
open Go.RowKit

abbrev vc:Vx:=(2,0)
abbrev vd:Vx:=(3,0)
end
section
open Go.RowKit

def ZEV:Nat->Nat->Nat
 | _,0=>1
 | 0,_+1=>0
 | n+1,k+1=>ZEV n k+ZEV n (k+1)
theorem ZCo:∀ (s:List Vx) (k:Nat),(ZX k s).length=ZEV s.length k
 | s,0=>by rw [ZLw];cases s <;> rfl
 | [],k+1=>by rw [ZBX _ _ (by simp)];rfl
 | v::s,k+1=>by rw [ZLv,ZCo s k,ZCo s (k+1)];rfl
end
section
theorem ZCF {a b c:List Vx} (h:Zb a b=true) (k:Zb b c=true):Zb a c=true:=by
 unfold Zb at *
 rw [List.all_eq_true] at *
 intro x hx
 exact k x (of_decide_eq_true (h x hx))
theorem ZCm (a:List Vx):Zb a a=true:=by
 unfold Zb
 rw [List.all_eq_true]
 intro x hx
 exact decide_eq_true hx
theorem ZLC {l:Cx} (h:∀ s∈l,0<s.length/\s.length≤8):∀ (n:Nat) (s:List Vx),s∈l->8-s.length≤n->∃ f∈ZKs l,Zb s f=true
 | n,s,hs,hn=>by
  by_cases hc:ZAM l s=true
  ·obtain ⟨x,hx,h1,h2⟩:=ZAG.1 hc
   have h3:=(h x hx).2
   match n with
   | 0=>omega
   | n+1 =>
    obtain ⟨f,hf,h4⟩:=ZLC h n x hx (by omega)
    exact ⟨f,hf,ZCF h2 h4⟩
  ·refine ⟨s,ZCH.2 ⟨hs,?_⟩,ZCm s⟩
   unfold ZQj
   rw [Bool.and_eq_true]
   exact ⟨decide_eq_true (h s hs).1,by simpa using hc⟩
theorem ZA1 {l:Cx} {s:List Vx}:ZFm l s=true↔∃ f∈l,Zb s f=true:=by unfold ZFm;rw [List.any_eq_true]
theorem ZG7 {a b:Bool} (h:a=true↔b=true):a=b:=by cases a <;> cases b <;> simp_all
theorem Zf {s:List Vx} (h:ZAL s=0):0<s.length/\s.length≤8:=by
 obtain ⟨h1,h2,_⟩:=Zk.1 h
 exact ⟨by omega,h2⟩
theorem ZRy {l:Cx} (hg:∀ s∈l,ZAL s=0) (s:List Vx):ZFm (ZKs l) s=ZFm l s:=by
 apply ZG7
 rw [ZA1,ZA1]
 constructor
 ·rintro ⟨f,hf,h⟩;exact ⟨f,(ZCH.1 hf).1,h⟩
 ·rintro ⟨f,hf,h⟩
  obtain ⟨g,hg',h2⟩:=ZLC (fun s hs=>Zf (hg s hs)) 8 f hf (by omega)
  exact ⟨g,hg',ZCF h h2⟩
theorem Z3 {a b:List Vx}:Zb a b=true↔∀ x∈a,x∈b:=by
 unfold Zb
 rw [List.all_eq_true]
 exact ⟨fun h x hx=>of_decide_eq_true (h x hx),fun h x hx=>decide_eq_true (h x hx)⟩
theorem ZER {l:Cx} (hl:∀ s∈l,Asc s) {k:Nat} {x:List Vx}:x∈Zs l k↔Asc x/\x.length=k/\ZFm l x=true:=by
 rw [ZAr,ZA1]
 constructor
 ·rintro ⟨f,hf,hx⟩
  obtain ⟨h1,h2⟩:=(Z9 _ _ _).1 hx
  have ha:Asc x:=List.Pairwise.sublist h1 (hl f hf)
  exact ⟨ha,h2,f,hf,(ZAS ha (hl f hf)).1 h1⟩
 ·rintro ⟨ha,h2,f,hf,h⟩
  exact ⟨f,hf,(Z9 _ _ _).2 ⟨(ZAS ha (hl f hf)).2 h,h2⟩⟩
theorem ZRR {l:Cx} {k B:Nat} (h:∀ s∈l,(ZX k s).length≤B):(Zs l k).length≤B*l.length:=by
 have h1:(Zs l k).length≤(ZQ1 l k).length:=List.Nodup.length_le_of_subset (ZA0 l _).nodup fun x hx=>ZPs.2 hx
 have h2:∀ l:Cx,(∀ s∈l,(ZX k s).length≤B)->(ZQ1 l k).length≤B*l.length:=by
  intro l
  induction l with
  | nil=>intro _;simp [ZQ1]
  | cons s l ih =>
   intro h
   have h3:=ih fun x hx=>h x (List.mem_cons_of_mem _ hx)
   have h4:=h s (by simp)
   have h5:(ZQ1 (s::l) k).length=(ZX k s).length+(ZQ1 l k).length:=by unfold ZQ1;simp
   rw [h5,List.length_cons,Nat.mul_add,Nat.mul_one]
   omega
 exact Nat.le_trans h1 (h2 l h)
theorem ZPU:∀ n≤5,∀ k≤5,ZEV n k≤10:=by decide
structure Gd (l:Cx):Prop where
 good:GoodX l
 few:l.length≤30
 five:∀ s∈l,s.length≤5
theorem Gd.all {l:Cx} (h:Gd l) (k:Nat):(Zs l k).length≤300:=by
 have:=ZRR (l:=l) (k:=k) (B:=10) fun s hs=>by
  have h5:=h.five s hs
  by_cases hk:k≤5
  ·rw [ZCo];exact ZPU _ h5 _ hk
  ·rw [ZBX k s (by omega)];simp
 have:=h.few
 omega
theorem Gd.zero {l:Cx} (h:Gd l):ZA8 l=0:=Zr.2 h.good
def upC (l:Cx):Nat->Cx
 | 0=>[]
 | k+1=>upC l k++Zs l (k+1)
theorem ZHs {l:Cx} {x:List Vx}:∀ {k:Nat},x∈upC l k↔∃ j,1≤j/\j≤k/\x∈Zs l j
 | 0=>by
  constructor
  ·intro h;simp [upC] at h
  ·rintro ⟨j,h1,h2,_⟩;omega
 | k+1=>by
  unfold upC
  rw [List.mem_append,ZHs]
  constructor
  ·rintro (⟨j,h1,h2,h3⟩|h)
   ·exact ⟨j,h1,by omega,h3⟩
   ·exact ⟨k+1,by omega,Nat.le_refl _,h⟩
  ·rintro ⟨j,h1,h2,h3⟩
   by_cases hj:j=k+1
   ·subst hj;exact .inr h3
   ·exact .inl ⟨j,h1,by omega,h3⟩
theorem ZSk {l:Cx} (h:GoodX l) (hl:∀ k,(Zs l (k+1)).length≤4096):ZKV l=(ZEs l 8,0):=by
 unfold ZKV
 rw [Zr.2 h,if_neg (by omega:¬ (0:Int)≠0),if_neg]
 intro hc
 rw [List.any_eq_true] at hc
 obtain ⟨k,_,h2⟩:=hc
 have:=of_decide_eq_true h2
 have:=hl k
 omega
theorem Gd.eul {l:Cx} (h:Gd l):ZKV l=(ZEs l 8,0):=ZSk h.good fun k=>Nat.le_trans (h.all _) (by decide)
end
section
open Go.RowKit

section
variable {P:Program} {ops:Array Oper} {hp:List HObj} {fr:List Dat} {dst:Option Tmp} {ty:TypeId} {ps:String} {af:Array Edge} {g:Option (Nat × Bool)}
theorem ZGs {x:Operand} {A T:TypeId} {u v:Value} {n:Int} (hx:OpD fr x (dI n)) (hu:u = .int .i64 n) (hr:∀ w,(convert A T u).run P w = .ok v w) :
  SY P ops hp ⟨dst,.convert A T x,ty,ps,af,g⟩ fr (dX v):=SY.val fun {I w a} ho=>by
 have h1:a.eval x=u:=(hx.get (by simp [Op.operands]) ho:a.eval x = .int .i64 n).trans hu.symm
 refine ⟨v,?_,rfl⟩
 unfold execOp
 simp only [h1,Sem.run_bind,hr,Result.andThen_ok,Sem.run_pure]
theorem ZJQ {x y:Operand} {T T2:TypeId} {u v r:Value} {op:BinOp} (hx:OpD fr x (dX u)) (hy:OpD fr y (dX v)) (hr:∀ (x y:Operand) w,(do eqGuard op T x y u v;Go.binOp op T u v).run P w = .ok r w) :
  SY P ops hp ⟨dst,.binOp op T x y T2,ty,ps,af,g⟩ fr (dX r):=SY.val fun {I w a} ho=>by
 have h1:a.eval x=u:=hx.get (by simp [Op.operands]) ho
 have h2:a.eval y=v:=hy.get (by simp [Op.operands]) ho
 refine ⟨r,?_,rfl⟩
 have:=hr x y w
 unfold execOp
 simp only [h1,h2]
 rw [Sem.run_bind,this]
 rfl
end
theorem cvIW (n:Nat) (h:n<9223372036854775808):∀ w,(convert 3 114 (.int .i64 (n:Int))).run Tryz.prog w = .ok (.int .u64 (n:Int)) w:=by
 have hw:IntKind.u64.wrap (n:Int)=(n:Int):=by simp [IntKind.wrap,IntKind.signed,IntKind.bits];omega
 intro w;go_simp
theorem cvWI (n:Nat) (h:n<9223372036854775808):∀ w,(convert 114 3 (.int .u64 (n:Int))).run Tryz.prog w = .ok (.int .i64 (n:Int)) w:=by
 have hw:IntKind.i64.wrap (n:Int)=(n:Int):=by rw [IntKind.wrap_i64];omega
 intro w;go_simp
theorem shrW (n:Nat) (h:n<9223372036854775808):∀ (x y:Operand) w,(do eqGuard .shr 114 x y (.int .u64 (n:Int)) (.int .u64 1);Go.binOp .shr 114 (.int .u64 (n:Int)) (.int .u64 1)).run Tryz.prog w = .ok (.int .u64 ((n / 2:Nat):Int)) w:=by
 intro x y w
 go_simp
end
end Go.Proofs.YtokmalofdapffaaGreat
