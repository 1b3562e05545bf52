/- Part 6: walks by contracts, and plain laws. -/
import Derived.Deep.Upon
import Derived.StillTail
import Derived.Test.YtokmalofdapffaaGreatV5
set_option linter.unusedVariables false
set_option linter.unusedSimpArgs false
set_option linter.unusedSectionVars false
set_option maxRecDepth 100000
set_option maxHeartbeats 4000000
namespace Go.Proofs.YtokmalofdapffaaGreat
section
open Go.RowKit

section
variable {P:Program} {ops:Array Oper} {hp:List HObj} {md:Region.Mode} {w:World}

def ZEj (P:Program) (md:Region.Mode) (ops:Array Oper) (hp:List HObj) (n:Nat) (L:Array Bool->List Dat->Prop):Nat->Array Bool->List Dat->Prop
 | 0,listed,a=>L listed a
 | f+1,listed,a =>
  Region.ready md ops listed≠[]/\∀ i∈Region.ready md ops listed,i<n/\sOp P ops hp i (ZEj P md ops hp n L f (listed.setIfInBounds i true)) a

theorem ZCO {n g:Nat} {L:Array Bool->List Dat->Prop} {Q':Exit->Act->World->Prop} {P0:Nat->Prop} {B:Nat} {w0:World}:∀ (f:Nat) (listed:Array Bool) (fr:List Dat) (a:Act) (w:World),Hp P0 B w0 hp w->Fr (Imm P0 B hp) w a fr ->
  (∀ listed fr a w',Ext w w'->Hp P0 B w0 hp w'->Fr (Imm P0 B hp) w' a fr->L listed fr->wpAny P md ops Q' g listed a w')->ZEj P md ops hp n L f listed fr->wpAny P md ops Q' (f+g) listed a w
 | 0,listed,fr,a,w,hh,hf,hL,h=>by rw [Nat.zero_add];exact hL _ _ _ _ (Ext.refl _) hh hf h
 | f+1,listed,fr,a,w,hh,hf,hL,h=>by
  rw [show f+1+g=(f+g)+1 by omega]
  refine ⟨fun h0=>absurd h0 h.1,fun i hi=>?_⟩
  have h1:=(h.2 i hi).2
  unfold sOp at h1
  unfold wpOp
  split
  ·rename_i ho;simp only [ho] at h1
   exact ZCO f _ _ _ _ hh hf hL h1
  ·rename_i o ho;simp only [ho] at h1
   obtain ⟨d,h2,h3⟩:=h1
   have:=h2.step (Q:=Q') hh hf (K:=wpAny P md ops Q' (f+g) (listed.setIfInBounds i true)) fun a' w' e hf'=>ZCO f _ _ _ _ (hh.ext e) hf' (fun li fr' a'' w'' e'=>hL li fr' a'' w'' (e.trans e')) h3
   split
   ·rename_i hw;rw [if_pos hw] at this;exact .inl this
   ·rename_i hw;rw [if_neg hw] at this;exact this

theorem ZHt {n i:Nat} {oi:Oper} {di:Dat} {L:Array Bool->List Dat->Prop} (hi:ops[i]?=some oi)
  (hs:Region.sinkB md ops n=true) (hc:Region.chainB md ops n=true) (hn:n<ops.size) (hin:i<n)
  (hdone:∀ listed a,L listed a->∀ j∈Region.ready md ops listed,n≤j) :
  ∀ (f:Nat) (listed:Array Bool) (fr:List Dat),HeadInv md ops n listed ->
   (∀ j oj,ops[j]?=some oj->j≠i->listed.getD j true=false->(∀ e∈oj.after,Region.binds md e=true->e.on≠i)->oi.apart ops oj=true) ->
   i∈Region.ready md ops listed->SYG P ops hp oi fr di ->
   ZEj P md ops hp n L f (listed.setIfInBounds i true) (ZB fr oi.dst di)->ZEj P md ops hp n L (f+1) listed fr:=by
 have one:∀ {K:List Dat->Prop} {fr:List Dat},SYG P ops hp oi fr di->K (ZB fr oi.dst di)->sOp P ops hp i K fr:=fun hy hk=>by unfold sOp;simp only [hi];exact ⟨di,hy,hk⟩
 intro f
 induction f with
 | zero =>
  intro listed a inv _ hr hy H
  have hun:=(mem_ready.1 hr).1
  refine ⟨fun h=>(by rw [h] at hr;cases hr),fun j hj=>?_⟩
  have hjn:j<n:=by
   rcases Nat.lt_or_ge j n with h|h
   ·exact h
   ·exact absurd hj (tail_waits hs hc hn inv _ i rfl hin hun j h)
  refine ⟨hjn,?_⟩
  by_cases hji:j=i
  ·subst hji;exact one hy H
  ·have:=hdone _ _ H j (ready_mono hj hji)
   omega
 | succ f ih =>
  intro listed a inv hfree hr hy H
  have hun:=(mem_ready.1 hr).1
  refine ⟨fun h=>(by rw [h] at hr;cases hr),fun j hj=>?_⟩
  have hjn:j<n:=by
   rcases Nat.lt_or_ge j n with h|h
   ·exact h
   ·exact absurd hj (tail_waits hs hc hn inv _ i rfl hin hun j h)
  refine ⟨hjn,?_⟩
  by_cases hji:j=i
  ·subst hji;exact one hy H
  ·have h1:=(H.2 j (ready_mono hj hji)).2
   obtain ⟨hjun,oj,hoj,hall⟩:=mem_ready.1 hj
   have hnot:∀ e∈oj.after,Region.binds md e=true->e.on≠i:=fun e he hb heq=>by
    have h1:=hall e he hb
    rw [heq,getD_both hun] at h1
    cases h1
   have h2:=ZHm hoj (hfree j oj hoj hji hjun hnot) hy h1
   have hfree':∀ k ok,ops[k]?=some ok->k≠i->(listed.setIfInBounds j true).getD k true=false ->
     (∀ e∈ok.after,Region.binds md e=true->e.on≠i)->oi.apart ops ok=true:=fun k ok hk hki hun hno=>by
    refine hfree k ok hk hki ?_ hno
    by_cases hjk:j=k
    ·subst hjk;exact hjun
    ·rw [getD_set_ne true hjk] at hun;exact hun
   refine ZFM (fun a' h3=>ih (listed.setIfInBounds j true) a' (inv.set hj hjn) hfree' (ready_mono hr (Ne.symm hji)) h3.1 ?_) h2
   rw [Array.setIfInBounds_comm _ _ hji]
   exact h3.2

theorem ZDu {n g:Nat} {Lq:List Dat->Prop} (hs:Region.sinkB md ops n=true) (hc:Region.chainB md ops n=true) (hn:n<ops.size) :
  ∀ (l:List Oper) (k:Nat) (listed:Array Bool) (fr:List Dat),(∀ j,j<l.length->l[j]?=ops[k+j]?)->k+l.length=n->HeadInv md ops n listed ->
  Region.lexHead md ops g l.length k listed=true->WD P ops hp Lq l fr ->
  ZEj P md ops hp n (fun listed' a'=>Region.seqB md ops g n listed'=true/\Lq a') l.length listed fr
 | [],k,listed,a,_,hk,_,hB,h=>by
  have:k=n:=by simpa using hk
  subst this
  exact ⟨by simpa [Region.lexHead] using hB,by cases h;assumption⟩
 | o::l,k,listed,a,hl,hk,inv,hB,h=>by
  have h0:ops[k]?=some o:=by simpa using (hl 0 (by simp)).symm
  simp only [List.length_cons,Region.lexHead,Bool.and_eq_true] at hB
  obtain ⟨⟨hr,hf⟩,hB'⟩:=hB
  have hkn:k<n:=by simp only [List.length_cons] at hk;omega
  have hr':k∈Region.ready md ops listed:=by simpa using hr
  cases h
  rename_i d hy hK
  exact ZHt h0 hs hc hn hkn (fun listed' a' hL=>seqB_ready hL.1) l.length listed a inv (Region.free_spec h0 hf) hr' hy
   (ZDu hs hc hn l (k+1) _ _ (fun j hj=>by have:=hl (j+1) (by simp;omega);simpa [Nat.add_assoc,Nat.add_comm 1 j] using this) (by simp only [List.length_cons] at hk;omega) (inv.set hr' hkn) hB' hK)

theorem WC.drawTail {id:Nat} {l:List Oper} {fr:List Dat} {Q:ZAE} (n:Nat) (hm:P.follows .mixedOrders=true) (hB:Region.lexTailB .any l.toArray n=true)
  (h:WD P l.toArray hp (fun f=>WL P l.toArray Q (l.drop n) f hp) (l.take n) fr):WC P Q (.region id l.toArray true) fr hp:=by
 refine WC.of fun P0 B w0 w a hh hf=>?_
 simp only [Region.lexTailB,Bool.and_eq_true,decide_eq_true_eq] at hB
 obtain ⟨⟨⟨⟨hsel,hn⟩,hs⟩,hc⟩,hlex⟩:=hB
 have hn':n<l.length:=by simpa using hn
 have htl:(l.take n).length=n:=by simp;omega
 have hdl:(l.drop n).length=l.toArray.size-n:=by simp
 have inv0:HeadInv .any l.toArray n (Array.replicate l.toArray.size false) :=
  ⟨by simp,fun j oj _ hl=>(by rw [getD_replicate_false] at hl;cases hl),fun t _ ht=>getD_in (by simpa using ht) (getD_replicate_false _ _)⟩
 have H:=ZDu (md:=.any) (g:=l.toArray.size-n) hs hc hn (l.take n) 0 _ fr (fun j hj=>by
  have hj':j<n:=by rw [htl] at hj;exact hj
  simp [hj']) (by simpa using htl) inv0 (by rw [htl];exact hlex) h
 have hx:Ext w { w with drawn:=w.drawn+1 }:=(Ext.refl w).drew
 refine wp_region_any hm ?_
 have:=ZCO (Q':=ZCN Q P0 B w0) (g:=l.toArray.size-n) _ _ _ _ _ (hh.ext hx) (hf.ext hx) (fun listed fr' a' w' e hh' hf' hL=>by
  have:=wpAny_of_seq (md:=.any) (Q':=ZCN Q P0 B w0) (l.drop n) n listed a' w' (fun j=>by simp [List.getElem?_drop]) (by rw [hdl];exact hL.1) (hL.2.on hh' hf')
  rwa [hdl] at this) H
 rw [htl,show n+(l.toArray.size-n)=l.toArray.size by omega] at this
 exact this
end

section
variable {P:Program} {ops:Array Oper} {hp:List HObj} {o:Oper} {fr:List Dat} {d:Dat} {Q:ZAE} {rest:List Oper}
variable {dst:Option Tmp} {ty:TypeId} {ps:String} {af:Array Edge} {g:Option (Nat × Bool)}
variable {t e:TypeId} {n bytes:Nat} {z:Value} {ag:Bool}
theorem SY.build1' (E:ElT P t e 1 z bytes ag) {α:Type} {R:Rel α} {_gR:Good R} {len:Nat} {parts:Array (Nat × Operand)} {els:List α} (hx:ElsD fr R (parts.toList.map Prod.snd) els) (hparts:parts.toList=((parts.toList.map Prod.snd).zipIdx).map (fun p=>(p.2,p.1))) (hl:len=els.length) (hs:∀ a,(dS R a).Shape 1 false) (hsm:els.length*1≤16777216) :
  SY P ops hp ⟨dst,.buildSlice t len parts,ty,ps,af,g⟩ fr (dS (Arr R) els):=SY.build1 E hx hparts hl hs hsm
theorem ZH5 {v:Value} {e:TypeId} {α:Type} {R:Rel α} {_gR:Good R} {xs ys:List α} (h:Zh v e R xs∈hp) (he:xs=ys):FinD hp (dX v) (dS (Arr R) ys):=he ▸ FinD.row h
theorem ZDL {v:Value} {e:TypeId} {n:Nat} {α:Type} {R:Rel α} {_gR:Good R} {xs ys:List α} (h:Zg v e n R xs∈hp) (he:xs=ys):FinD hp (dX v) (dS (ArrK n R) ys):=he ▸ FinD.rowK h
theorem Zw:(dX (.agg #[.int .i64 0,.int .i64 0])).Shape 2 true:=fun _ _ _ h=>by cases (h:_=_);exact ⟨[.int .i64 0,.int .i64 0],rfl,by omega,by simp [Value.oneCell'],rfl,rfl⟩
end

end
section
open Go.RowKit
section
variable {P:Program} {ops:Array Oper} {hp:List HObj} {o:Oper} {fr:List Dat} {d:Dat} {Q:ZAE} {rest:List Oper}
variable {dst:Option Tmp} {ty:TypeId} {ps:String} {af:Array Edge} {g:Option (Nat × Bool)}
variable {t e:TypeId} {n bytes:Nat} {z:Value} {ag:Bool}
theorem Zt {α:Type} {R:Rel α} {_gR:Good R} {x:Operand} {xs:List Operand} {a:α} {els:List α} (h:OpD fr x (dS R a)) (k:ElsD fr R xs els):ElsD fr R (x::xs) (a::els):=ElsD.cons h k
theorem Zu {α:Type} {R:Rel α} {_gR:Good R}:ElsD fr R [] ([]:List α):=ElsD.nil
theorem ZGu {x y:Operand} (E:ElT P t e n z bytes ag) {α:Type} {R:Rel α} {_gR:Good R} {xs:List α} {j:Int} (hx:OpD fr x (dS (ArrK n R) xs)) (hy:OpD fr y (dI j)) (l:Nat) (hj:j=(l:Int)) (h1:l≤xs.length) :
  SY P ops hp ⟨dst,.slice t x (some y) none none,ty,ps,af,g⟩ fr (dS (ArrK n R) (xs.drop l)):=by
 have:=ZBD (P:=P) (ops:=ops) (hp:=hp) (dst:=dst) (ty:=ty) (ps:=ps) (af:=af) (g:=g) (_gR:=_gR) E hx (ZW hy hj) BndD.no h1 (Nat.le_refl _)
 rwa [List.take_of_length_le (by simp)] at this
theorem ZOy {x y:Operand} (E:ElT P t e 1 z bytes ag) {α:Type} {R:Rel α} {_gR:Good R} {xs:List α} {j:Int} (hx:OpD fr x (dS (Arr R) xs)) (hy:OpD fr y (dI j)) (l:Nat) (hj:j=(l:Int)) (h1:l≤xs.length) :
  SY P ops hp ⟨dst,.slice t x (some y) none none,ty,ps,af,g⟩ fr (dS (Arr R) (xs.drop l)):=by
 have:=ZBC (P:=P) (ops:=ops) (hp:=hp) (dst:=dst) (ty:=ty) (ps:=ps) (af:=af) (g:=g) (_gR:=_gR) E hx (ZW hy hj) BndD.no h1 (Nat.le_refl _)
 rwa [List.take_of_length_le (by simp)] at this
theorem ZGw {x y:Operand} (E:ElT P t e n z bytes ag) {α:Type} {R:Rel α} {_gR:Good R} {xs:List α} {j:Int} (hx:OpD fr x (dS (ArrK n R) xs)) (hy:OpD fr y (dI j)) (l:Nat) (hj:j=(l:Int)) (h1:l≤xs.length) :
  SY P ops hp ⟨dst,.slice t x none (some y) none,ty,ps,af,g⟩ fr (dS (ArrK n R) (xs.take l)):=by
 have:=ZBD (P:=P) (ops:=ops) (hp:=hp) (dst:=dst) (ty:=ty) (ps:=ps) (af:=af) (g:=g) (_gR:=_gR) E hx (BndD.no (k:=0)) (ZW hy hj) (Nat.zero_le _) h1
 simpa using this
theorem SY.buildE (E:ElT P t e n z bytes ag) {α:Type} {R:Rel α} {_gR:Good R} {len:Nat} {parts:Array (Nat × Operand)} {els:List α} (hx:ElsD fr R (parts.toList.map Prod.snd) els) (hparts:parts.toList=((parts.toList.map Prod.snd).zipIdx).map (fun p=>(p.2,p.1))) (hl:len=els.length) (hn:0<n) (hs:∀ a,(dS R a).Shape n true) (hsm:els.length*n≤16777216) :
  SY P ops hp ⟨dst,.buildSlice t len parts,ty,ps,af,g⟩ fr (dS (ArrK n R) els):=SY.buildK E hx hparts hl hn hs hsm
end

end
section
open Go.RowKit
def ZAw (P:Program) (f:FuncId):Prop:=∀ (args:Array Value) (w:World),(callFunc f args).run P w = .ok (.enter f args) w
def ZKS (P:Program) {α:Type} (A:α->List Dat) (r:α->Dat):Dat where
 rd:=fun I w v=>∃ f cap,v = .func (.func f) #[] cap/\ZAw P f/\∀ w',(∀ k,I k->k<w.heap.size->w'.heap[k]?=w.heap[k]?)->∀ (x:α) (I':Nat->Prop) (vs:List Value),vs.length=(A x).length->(∀ (i:Nat) (d:Dat),(A x)[i]?=some d->d.rd I' w' (vs.getD i undef)) ->
  Calls P f (vs.toArray++cap) w' fun e w''=>∃ u,e = .returned u/\Ext w' w''/\(r x).rd (fun b=>I' b\/w'.heap.size≤b) w'' u
 weak:=fun ⟨f,cap,h1,h0,h2⟩ q=>⟨f,cap,h1,h0,fun w' hw'=>h2 w' fun k hk=>hw' k (q k hk)⟩
 move:=fun {P w w2 v} ⟨f,cap,h1,h0,h2⟩ q=>⟨f,cap,h1,h0,fun w' hw'=>h2 w' fun k hk hlt=>by
  have h3:=q k hk hlt
  have hlt2:k<w2.heap.size:=by
   have:(w2.heap[k]?).isSome=true:=by rw [h3];simp [hlt]
   exact (Array.getElem?_eq_some_iff.1 (Option.isSome_iff_exists.1 this).choose_spec).1
  exact (hw' k hk hlt2).trans h3⟩
 bound:=fun ⟨f,cap,h1,h0,h2⟩=>⟨f,cap,h1,h0,fun w' hw'=>h2 w' fun k hk hlt=>hw' k ⟨hk,hlt⟩ hlt⟩
section
variable {P:Program} {ops:Array Oper} {hp:List HObj} {o:Oper} {fr:List Dat} {d:Dat} {dst:Option Tmp} {ty:TypeId} {ps:String} {af:Array Edge} {g:Option (Nat × Bool)}
theorem ZIq {f:FuncId} {α:Type} {A:α->List Dat} {r:α->Dat} (he:ZAw P f) (h:∀ x,Fn P f (A x) (r x)):(dX (.func (.func f) #[] #[])).le (ZKS P A r):=fun I w v hv=>by
 cases (hv:_=_)
 refine ⟨f,#[],rfl,he,fun w' _ x I' vs hl hr=>?_⟩
 have:=(h x).out I' w' vs hl hr
 simpa using this
theorem ZAu {t:Tmp} {args:Array Operand} {ats:Array TypeId} {α:Type} {A:α->List Dat} {r:α->Dat} {x:α} (ht:OpD fr (.tmp t) (ZKS P A r)) (ha:ArgsD fr args.toList (A x)) :
  SY P ops hp ⟨dst,.call { callee:=.value (.tmp t),args:=args,argTypes:=ats },ty,ps,af,g⟩ fr (r x):=SY.mk fun {P0 B w0 w a} hh ho K Q hk=>by
 obtain ⟨f,cap,h1,h0,h2⟩:=ht.get (by simp [Op.operands,Call.operands]) ho
 have h3:=h2 w (fun _ _ _=>rfl) x (Imm P0 B hp) (args.toList.map a.eval) (by simpa using ha.1) fun i d hd=>by
  have hi:i<args.toList.length:=by rw [ha.1];exact (List.getElem?_eq_some_iff.1 hd).1
  have h2:=ha.2 i _ d (List.getElem?_eq_getElem hi) hd
  have:=h2.get (by simp only [Op.operands,Call.operands];simp) ho
  have hi':i<args.size:=by simpa using hi
  simpa [List.getD,hi'] using this
 have he:(args.toList.map a.eval).toArray=args.map a.eval:=by apply Array.ext';simp
 rw [he] at h3
 unfold Oper.wp
 have h4:=h0 (args.map a.eval++cap) w
 have:(execOp a.eval ⟨dst,.call { callee:=.value (.tmp t),args:=args,argTypes:=ats },ty,ps,af,g⟩).run P w = .ok (.enter f (args.map a.eval++cap)) w:=by
  unfold execOp
  simp only [resolve]
  simp [h1,Deferred.ofValue,invoke,h4]
 rw [this]
 exact h3.mono fun e w' ⟨v,he,e1,hd⟩=>by subst he;exact hk v w' e1 ((r x).weak hd fun k hk=>hk.elim id hh.fresh)
theorem ZCU {f:FuncId} {caps:Array Operand} {cs:List Dat} {α:Type} {A:α->List Dat} {r:α->Dat} (he:ZAw P f) (h:∀ x,Fn P f (A x++cs) (r x)) (hr:∀ x,(r x).Bare) (ha:ArgsD fr caps.toList cs) :
  SY P ops hp ⟨dst,.makeFunc (.func f) #[] caps,ty,ps,af,g⟩ fr (ZKS P A r):=SY.val fun {I w a} ho=>by
 refine ⟨.func (.func f) #[] (caps.map a.eval),by unfold execOp;simp [Instr.makeFunc],f,_,rfl,he,fun w' hw' x I' vs hl hv=>?_⟩
 have hcap:∀ (i:Nat) (d:Dat),cs[i]?=some d->d.rd I w' ((caps.toList.map a.eval).getD i undef):=fun i d hd=>by
  have hi:i<caps.toList.length:=by rw [ha.1];exact (List.getElem?_eq_some_iff.1 hd).1
  have h2:=ha.2 i _ d (List.getElem?_eq_getElem hi) hd
  have:=h2.get (by simp only [Op.operands];simp) ho
  have hi':i<caps.size:=by simpa using hi
  have:=d.move this hw'
  simpa [List.getD,hi'] using this
 have:=(h x).out (fun b=>I' b\/I b) w' (vs++caps.toList.map a.eval) (by have:=ha.1;simp at this;simp [hl,this]) fun i d hd=>by
  by_cases hi:i<(A x).length
  ·rw [List.getElem?_append_left hi] at hd
   have:=hv i d hd
   have hi2:i<vs.length:=by omega
   rw [List.getD_eq_getElem?_getD,List.getElem?_append_left hi2,<- List.getD_eq_getElem?_getD]
   exact d.weak this fun _=>.inl
  ·rw [List.getElem?_append_right (by omega)] at hd
   have:=hcap _ d hd
   rw [List.getD_eq_getElem?_getD,List.getElem?_append_right (by omega),<- List.getD_eq_getElem?_getD,hl]
   exact d.weak this fun _=>.inr
 have he:(vs++caps.toList.map a.eval).toArray=vs.toArray++caps.map a.eval:=by apply Array.ext';simp
 rw [he] at this
 exact this.mono fun e w'' ⟨u,h1,h2,h3⟩=>⟨u,h1,h2,hr x _ _ _ _ _ h3⟩
end
end
section
open Go.RowKit
def hFr (a:Act) (fr:List Dat):HObj where
 blk:=none
 ok:=fun I w=>∀ (t:Nat) (d:Dat),fr[t]?=some d->d.rd I w (a.tmps.getD t undef)
 weak:=fun h q t d hd=>d.weak (h t d hd) q
 bound:=fun h t d hd=>d.bound (h t d hd)
 move:=fun h hg hP _ t d hd=>d.grown (h t d hd) hg hP
section
variable {P:Program} {ops:Array Oper} {hp:List HObj} {o:Oper} {fr:List Dat} {d:Dat} {Q:ZAE} {rest:List Oper}
variable {dst:Option Tmp} {ty:TypeId} {ps:String} {af:Array Edge} {g:Option (Nat × Bool)} {P0:Nat->Prop} {B:Nat} {w0 w:World}
theorem ZAI {gh:HObj} (hg:gh.blk=none) (l:List HObj) (k:Nat):Imm P0 B (l++gh::hp) k↔Imm P0 B (l++hp) k:=by
 unfold Imm
 refine and_congr Iff.rfl ⟨fun h o ho=>h o ?_,fun h o ho=>?_⟩
 ·rcases List.mem_append.1 ho with ho|ho
  ·exact List.mem_append_left _ ho
  ·exact List.mem_append_right _ (List.mem_cons_of_mem _ ho)
 ·rcases List.mem_append.1 ho with ho|ho
  ·exact h o (List.mem_append_left _ ho)
  ·rcases List.mem_cons.1 ho with rfl|ho
   ·rw [hg];simp
   ·exact h o (List.mem_append_right _ ho)
theorem ZAz {gh:HObj} (hg:gh.blk=none) {l:List HObj} (h:Hp P0 B w0 (l++hp) w) (hok:gh.ok (Imm P0 B (l++hp)) w):Hp P0 B w0 (l++gh::hp) w where
 base:=h.base
 below:=h.below
 own:=fun o ho k hk=>by
  rcases List.mem_append.1 ho with ho|ho
  ·exact h.own o (List.mem_append_left _ ho) k hk
  ·rcases List.mem_cons.1 ho with rfl|ho
   ·rw [hg] at hk;cases hk
   ·exact h.own o (List.mem_append_right _ ho) k hk
 ok:=fun o ho=>by
  rcases List.mem_append.1 ho with ho|ho
  ·exact o.weak (h.ok o (List.mem_append_left _ ho)) fun k=>(ZAI hg l k).2
  ·rcases List.mem_cons.1 ho with rfl|ho
   ·exact o.weak hok fun k=>(ZAI hg l k).2
   ·exact o.weak (h.ok o (List.mem_append_right _ ho)) fun k=>(ZAI hg l k).2
 apart:=by
  have h1:=h.apart
  rw [List.pairwise_append] at h1 ⊢
  refine ⟨h1.1,List.pairwise_cons.2 ⟨fun q _ k hk=>(by rw [hg] at hk;cases hk),h1.2.1⟩,fun o ho q hq k hk=>?_⟩
  rcases List.mem_cons.1 hq with rfl|hq
  ·rw [hg];simp
  ·exact h1.2.2 o ho q hq k hk
theorem Hp.unghost {gh:HObj} (hg:gh.blk=none) {l:List HObj} (h:Hp P0 B w0 (l++gh::hp) w):Hp P0 B w0 (l++hp) w/\gh.ok (Imm P0 B (l++hp)) w:=by
 have hm:∀ o,o∈l++hp->o∈l++gh::hp:=fun o ho=>by
  rcases List.mem_append.1 ho with ho|ho
  ·exact List.mem_append_left _ ho
  ·exact List.mem_append_right _ (List.mem_cons_of_mem _ ho)
 refine ⟨⟨h.base,h.below,fun o ho=>h.own o (hm o ho),fun o ho=>o.weak (h.ok o (hm o ho)) fun k=>(ZAI hg l k).1,?_⟩,gh.weak (h.ok gh (by simp)) fun k=>(ZAI hg l k).1⟩
 have h1:=h.apart
 rw [List.pairwise_append] at h1 ⊢
 exact ⟨h1.1,(List.pairwise_cons.1 h1.2.1).2,fun o ho q hq=>h1.2.2 o ho q (List.mem_cons_of_mem _ hq)⟩
def finI (t:Nat) (K:Dat->List HObj->Prop) (gh:HObj) (hp:List HObj):ZAE:=fun e f q=>(match e with|.normal|.ret=>True|_=>False)/\∃ d hp2,f[t]?=some d/\q=hp2++gh::hp/\K d hp2
theorem ZMQ {f:FuncId} {fn:Func} {c:Code} {t:Tmp} {args:Array Operand} {ats:Array TypeId} {ds:List Dat} (hp1:List HObj) (K:Dat->List HObj->Prop) (hf:P.funcs[f]?=some fn) (hb:fn.body=some c) (hr:fn.results=#[.tmp t]) (he:ZAw P f) (ha:ArgsD fr args.toList ds)
  (hbody:∀ gh:HObj,gh.blk=none->WC P (finI t K gh hp) c (ds++List.replicate (fn.ntmps-ds.length) (dX undef)) (hp1++gh::hp))
  (hK:∀ d' hp2,K d' hp2->WL P ops Q rest (ZB fr dst d') (hp2++hp)) :
  WL P ops Q (⟨dst,.call { callee:=.value (.func f),args:=args,argTypes:=ats },ty,ps,af,none⟩::rest) fr (hp1++hp):=by
 refine WL.of fun P0 B w0 w a hh hfr=>?_
 have hrun:(execOp a.eval ⟨dst,.call { callee:=.value (.func f),args:=args,argTypes:=ats },ty,ps,af,none⟩).run P w = .ok (.enter f (args.map a.eval)) w:=by
  unfold execOp
  simp only [resolve]
  simp [Act.eval,Deferred.ofValue,invoke,he _ w]
 refine wpList_plain rfl fun KK hKK=>?_
 unfold Oper.wp
 rw [hrun]
 have hgb:(hFr a fr).blk=none:=rfl
 have hG:Hp P0 B w0 (hp1++hFr a fr::hp) w:=ZAz hgb hh hfr.rd
 have hvs:(args.map a.eval)=(args.toList.map a.eval).toArray:=by apply Array.ext';simp
 have hl:(args.toList.map a.eval).length=ds.length:=by simpa using ha.1
 have hf0:Fr (Imm P0 B (hp1++hFr a fr::hp)) w { tmps:=(args.toList.map a.eval).toArray++Array.replicate (fn.ntmps-ds.length) undef,defers:=[] } (ds++List.replicate (fn.ntmps-ds.length) (dX undef)) :=
  ZBF hl fun i d hd=>by
   have hi:i<args.toList.length:=by rw [ha.1];exact (List.getElem?_eq_some_iff.1 hd).1
   have h2:=(ha.2 i _ d (List.getElem?_eq_getElem hi) hd).ev hfr
   have hi':i<args.size:=by simpa using hi
   have:(args.toList.map a.eval).getD i undef=a.eval args.toList[i]:=by simp [List.getD,hi']
   rw [this]
   exact d.weak h2 fun k=>(ZAI hgb hp1 k).2
 have hcalls:Calls P f (args.map a.eval) w fun e w'=>∃ v,e = .returned v/\KK (a.put dst v) w':=by
  rw [hvs]
  refine calls_of_wp hf hb ?_
  have hwp:=(hbody (hFr a fr) hgb).on hG hf0
  have hsz:(args.toList.map a.eval).toArray.size=ds.length:=by simp [<- hl]
  rw [hsz]
  refine Code.wp_mono (fun e a' w' ⟨f',p',q,hh',hf'⟩=>?_) hwp
  obtain ⟨hx,d',hp2,hd',rfl,hk'⟩:=q
  obtain ⟨hh2,hok2⟩:=hh'.unghost hgb
  have hv:=d'.weak (hf'.rd t d' hd') fun k=>(ZAI hgb hp2 k).1
  have hfr2:Fr (Imm P0 B (hp2++hp)) w' a fr:=⟨hfr.defers,hfr.size,hok2⟩
  have hfin:=hKK _ _ ((hK d' hp2 hk').on hh2 (Fr.put (x:=dst) hfr2 hv))
  cases e with
  | normal=>exact ⟨hf'.defers,_,results_tmp hr _ _ _,_,rfl,hfin⟩
  | ret=>exact ⟨hf'.defers,_,results_tmp hr _ _ _,_,rfl,hfin⟩
  | _=>exact hx.elim
 exact hcalls.mono fun e w' ⟨v,hv,hk⟩=>by subst hv;exact hk
end
end
section
open Go.RowKit
structure InC (P:Program) (f:FuncId) (ds:List Dat) (hp1:List HObj) (K:Dat->List HObj->Prop):Prop where
 out:∀ hp:List HObj,∃ (fn:Func) (c:Code) (t:Tmp),P.funcs[f]?=some fn/\fn.body=some c/\fn.results=#[.tmp t]/\∀ gh:HObj,gh.blk=none->WC P (finI t K gh hp) c (ds++List.replicate (fn.ntmps-ds.length) (dX undef)) (hp1++gh::hp)
section
variable {P:Program} {ops:Array Oper} {hp:List HObj} {o:Oper} {fr:List Dat} {d:Dat} {Q:ZAE} {rest:List Oper}
variable {dst:Option Tmp} {ty:TypeId} {ps:String} {af:Array Edge} {g:Option (Nat × Bool)}
theorem ZL7 {f:FuncId} {fn:Func} {c:Code} {t:Tmp} {ds:List Dat} {hp1:List HObj} {K:Dat->List HObj->Prop} (hf:P.funcs[f]?=some fn) (hb:fn.body=some c) (hr:fn.results=#[.tmp t])
  (h:∀ (hp:List HObj) (gh:HObj),gh.blk=none->WC P (finI t K gh hp) c (ds++List.replicate (fn.ntmps-ds.length) (dX undef)) (hp1++gh::hp)):InC P f ds hp1 K:=⟨fun hp=>⟨fn,c,t,hf,hb,hr,h hp⟩⟩
theorem ZST {f:FuncId} {args:Array Operand} {ats:Array TypeId} {ds:List Dat} {hp1:List HObj} {K:Dat->List HObj->Prop} (hF:InC P f ds hp1 K) (he:ZAw P f) (ha:ArgsD fr args.toList ds)
  (hK:∀ d' hp2,K d' hp2->WL P ops Q rest (ZB fr dst d') (hp2++hp)) :
  WL P ops Q (⟨dst,.call { callee:=.value (.func f),args:=args,argTypes:=ats },ty,ps,af,none⟩::rest) fr (hp1++hp):=by
 obtain ⟨fn,c,t,hf,hb,hr,h⟩:=hF.out hp
 exact ZMQ hp1 K hf hb hr he ha h hK
theorem ZGJ {α:Type} (e:TypeId) (n:Nat) (hn:0<n) (R:Rel α) [Good R] (h:WL P ops Q rest fr (Zg (.slice none 0 0) e n R ([]:List α)::hp)):WL P ops Q rest fr hp:=WL.of fun _ _ _ _ _ hh hf =>
 h.on (hh.push (Ext.refl _) (by simp [Zg,Value.ownBlock]) (OwnK.nil hn)) (hf.mono fun _ _ hd=>Z8 (Ext.refl _) (by simp [Zg,Value.ownBlock]) hd)
theorem ZMR {f:FuncId} {args:Array Operand} {ats:Array TypeId} {ds:List Dat} {e:TypeId} {n:Nat} {α:Type} {R:Rel α} {_gR:Good R} {xs:List α} (hn:0<n) (hF:InC P f ds [] fun d' hp2=>∃ v,d'=dX v/\(hp2=[Zg v e n R xs]\/v = .slice none 0 0/\xs=[]/\hp2=[])) (he:ZAw P f) (ha:ArgsD fr args.toList ds)
  (hK:∀ v,WL P ops Q rest (ZB fr dst (dX v)) (Zg v e n R xs::hp)) :
  WL P ops Q (⟨dst,.call { callee:=.value (.func f),args:=args,argTypes:=ats },ty,ps,af,none⟩::rest) fr hp :=
 ZST (hp1:=[]) hF he ha fun d' hp2 ⟨v,hd,hh⟩=>by
  subst hd
  rcases hh with rfl|⟨rfl,rfl,rfl⟩
  ·exact hK v
  ·exact ZGJ e n hn R (hK _)
end
end
section

abbrev Vx:=Int × Int
def ZCL (a b:Vx):Int:=if a.1<b.1 then -1 else if b.1<a.1 then 1 else if a.2<b.2 then -1 else if b.2<a.2 then 1 else 0
def ZH0 (v:Vx):Bool:=decide (0≤v.1) && decide (v.1<8) && decide (0≤v.2) && decide (v.2≤1048576)
def ZAB:List Vx->List Vx->Int
 | [],[]=>0
 | [],_::_=>-1
 | _::_,[]=>1
 | x::a,y::b=>if ZCL x y=0 then ZAB a b else ZCL x y
def ZL1:Option Vx->List Vx->Int
 | _,[]=>0
 | p,v::s=>if ZH0 v=false then 2 else if (match p with|some u=>decide (0≤ZCL u v)|none=>false)=true then 14 else ZL1 (some v) s
def ZAL (s:List Vx):Int:=if s.length=0 then 16 else if 8<s.length then 5 else ZL1 none s
def ZQ5:List Vx->Vx->List Vx
 | [],v=>[v]
 | u::s,v=>if ZCL v u<0 then v::u::s else u::ZQ5 s v
def ZSP (s:List Vx) (v:Vx):List Vx:=if v∈s then s else ZQ5 s v

theorem ZCW (a b:Vx):(ZCL a b = -1/\ZCL b a=1)\/(ZCL a b=1/\ZCL b a = -1)\/(ZCL a b=0/\ZCL b a=0/\a=b):=by
 obtain ⟨x,y⟩:=a
 obtain ⟨u,v⟩:=b
 simp only [ZCL,Prod.mk.injEq]
 repeat' split
 all_goals omega
theorem ZB5 {a b:Vx}:ZCL a b=0↔a=b:=by
 constructor
 ·intro h
  rcases ZCW a b with h'|h'|h'
  ·omega
  ·omega
  ·exact h'.2.2
 ·rintro rfl
  rcases ZCW a a with h'|h'|h' <;> omega
theorem ZKP (a b:Vx):ZCL b a = - ZCL a b:=by
 rcases ZCW a b with h'|h'|h' <;> omega
theorem ZDQ {a b c:Vx} (h:ZCL a b<0) (h':ZCL b c<0):ZCL a c<0:=by
 obtain ⟨x,y⟩:=a
 obtain ⟨u,v⟩:=b
 obtain ⟨p,q⟩:=c
 revert h h'
 simp only [ZCL]
 repeat' split
 all_goals omega

def Asc (s:List Vx):Prop:=s.Pairwise fun a b=>ZCL a b<0

theorem asc_ext:∀ {a b:List Vx},Asc a->Asc b->(∀ x,x∈a↔x∈b)->a=b
 | [],[],_,_,_=>rfl
 | [],y::b,_,_,h=>absurd ((h y).2 (by simp)) (by simp)
 | x::a,[],_,_,h=>absurd ((h x).1 (by simp)) (by simp)
 | x::a,y::b,ha,hb,h=>by
  unfold Asc at ha hb
  rw [List.pairwise_cons] at ha hb
  have hxy:x=y:=by
   have h1:=(h x).1 (by simp)
   have h2:=(h y).2 (by simp)
   rw [List.mem_cons] at h1 h2
   rcases h1 with h1|h1
   ·exact h1
   rcases h2 with h2|h2
   ·exact h2.symm
   have h3:=hb.1 x h1
   have h4:=ha.1 y h2
   have:=ZKP x y
   omega
  subst hxy
  congr 1
  refine asc_ext ha.2 hb.2 fun z=>?_
  have hz:=h z
  rw [List.mem_cons,List.mem_cons] at hz
  have hne:∀ {l:List Vx},(∀ a∈l,ZCL x a<0)->z∈l->z≠x:=by
   intro l hl hm he
   subst he
   have:=hl z hm
   rw [ZB5.2 rfl] at this
   omega
  constructor
  ·intro hm
   rcases hz.1 (.inr hm) with h1|h1
   ·exact absurd h1 (hne ha.1 hm)
   ·exact h1
  ·intro hm
   rcases hz.2 (.inr hm) with h1|h1
   ·exact absurd h1 (hne hb.1 hm)
   ·exact h1

theorem ZHW:∀ {s:List Vx} {v x:Vx},x∈ZQ5 s v↔x=v\/x∈s
 | [],v,x=>by simp [ZQ5]
 | u::s,v,x=>by
  unfold ZQ5
  split
  ·simp
  ·rw [List.mem_cons,ZHW,List.mem_cons]
   constructor
   ·rintro (h|h|h) <;> simp [h]
   ·rintro (h|h|h) <;> simp [h]
theorem ZQC {s:List Vx} {v x:Vx}:x∈ZSP s v↔x=v\/x∈s:=by
 unfold ZSP
 split
 ·rename_i h
  constructor
  ·exact fun hx=>.inr hx
  ·rintro (rfl|hx)
   ·exact h
   ·exact hx
 ·exact ZHW
theorem ZKK:∀ {s:List Vx} {v:Vx},Asc s->v∉s->Asc (ZQ5 s v)
 | [],v,_,_=>by simp [ZQ5,Asc]
 | u::s,v,hs,hv=>by
  unfold Asc at hs
  have hs':=hs
  rw [List.pairwise_cons] at hs
  unfold ZQ5
  split
  ·rename_i hlt
   unfold Asc
   rw [List.pairwise_cons]
   refine ⟨fun y hy=>?_,hs'⟩
   rw [List.mem_cons] at hy
   rcases hy with rfl|hy
   ·exact hlt
   ·exact ZDQ hlt (hs.1 y hy)
  ·rename_i hge
   unfold Asc
   rw [List.pairwise_cons]
   refine ⟨fun y hy=>?_,ZKK hs.2 fun h=>hv (List.mem_cons_of_mem _ h)⟩
   rw [ZHW] at hy
   rcases hy with rfl|hy
   ·have hne:y≠u:=fun h=>hv (by rw [h];simp)
    rcases ZCW u y with h|h|h
    ·omega
    ·omega
    ·exact absurd h.2.2.symm hne
   ·exact hs.1 y hy
theorem ZPR {s:List Vx} {v:Vx} (hs:Asc s):Asc (ZSP s v):=by
 unfold ZSP
 split
 ·exact hs
 ·exact ZKK hs (by assumption)

def ZOj (s:List Vx) (l:List Vx):List Vx:=l.foldl ZSP s
theorem ZG3:∀ {l s:List Vx},Asc s->Asc (ZOj s l)
 | [],_,h=>h
 | _::l,_,h=>ZG3 (l:=l) (ZPR h)
theorem ZFH:∀ {l s:List Vx} {x:Vx},x∈ZOj s l↔x∈s\/x∈l
 | [],s,x=>by simp [ZOj]
 | v::l,s,x=>by
  show x∈ZOj (ZSP s v) l↔_
  rw [ZFH,ZQC,List.mem_cons]
  constructor
  ·rintro ((h|h)|h) <;> simp [h]
  ·rintro (h|h|h) <;> simp [h]

def Zb (a b:List Vx):Bool:=a.all fun x=>decide (x∈b)
def ZX:Nat->List Vx->List (List Vx)
 | 0,_=>[[]]
 | _+1,[]=>[]
 | k+1,v::s=>(ZX k s).map (v :: ·)++ZX (k+1) s
def ZCs (s:List Vx) (k:Int):List (List Vx) × Int:=if ZAL s≠0 then ([],ZAL s) else if k<1\/(s.length:Int)<k then ([],2) else (ZX k.toNat s,0)
def ZDE (a b:List Vx) (p:Bool):List Vx:=a.filter fun x=>decide (x∈b) == p
theorem ZA6 {α:Type} {l:List α} {k:Nat} (h:k<l.length):l.drop k=l[k]::l.drop (k+1):=List.drop_eq_getElem_cons h
theorem ZU {α:Type} {l:List α} {k:Nat} (h:k<l.length):l.take (k+1)=l.take k++[l[k]]:=List.take_succ_eq_append_getElem h
theorem ZD2 (a b:List Vx) (k:Nat):ZAB (a.drop k) (b.drop k)=if h:k<a.length then (if h':k<b.length then (if ZCL a[k] b[k]=0 then ZAB (a.drop (k+1)) (b.drop (k+1)) else ZCL a[k] b[k]) else 1) else if k<b.length then -1 else 0:=by
 by_cases h:k<a.length
 ·by_cases h':k<b.length
  ·rw [dif_pos h,dif_pos h',ZA6 h,ZA6 h'];rfl
  ·rw [dif_pos h,dif_neg h',ZA6 h,List.drop_of_length_le (l:=b) (by omega)];rfl
 ·by_cases h':k<b.length
  ·rw [dif_neg h,if_pos h',ZA6 h',List.drop_of_length_le (l:=a) (by omega)];rfl
  ·rw [dif_neg h,if_neg h',List.drop_of_length_le (l:=b) (by omega),List.drop_of_length_le (l:=a) (by omega)];rfl
theorem ZIX (s:List Vx) (k:Nat) (h:k<s.length):ZL1 (s.take k).getLast? (s.drop k)=if ZH0 s[k]=false then 2 else if (match (s.take k).getLast? with|some u=>decide (0≤ZCL u s[k])|none=>false)=true then 14 else ZL1 (s.take (k+1)).getLast? (s.drop (k+1)):=by
 have e:(s.take (k+1)).getLast?=some s[k]:=by rw [ZU h,List.getLast?_append];rfl
 rw [ZA6 h,e]
 rfl
theorem ZD7 (s:List Vx) (k:Nat) (h:k<s.length) (h0:0<k):(s.take k).getLast?=some s[k-1]:=by
 obtain ⟨j,rfl⟩:∃ j,k=j+1:=⟨k-1,by omega⟩
 rw [ZU (by omega),List.getLast?_append];rfl

theorem ZFZ {a b:List Vx} {k:Nat} (h:k<a.length) (h':k<b.length) (hc:ZCL a[k] b[k]=0):ZAB (a.drop k) (b.drop k)=ZAB (a.drop (k+1)) (b.drop (k+1)):=by rw [ZD2,dif_pos h,dif_pos h',if_pos hc]
theorem ZBt {α:Type} {l:List α} {k:Nat} (h:k<l.length) {x:α}:x∈l.take (k+1)↔x∈l.take k\/x=l[k]:=by rw [ZU h,List.mem_append,List.mem_singleton]
theorem ZPO {l:List Vx} {p:Vx->Bool} {k:Nat} (h:k<l.length):(l.take (k+1)).all p=((l.take k).all p && p l[k]):=by rw [ZU h,List.all_append];simp only [List.all_cons,List.all_nil,Bool.and_true]
theorem ZFh {α:Type} {l:List α} {p:α->Bool} {k:Nat} (h:k<l.length):(l.take (k+1)).filter p=(l.take k).filter p++(if p l[k] then [l[k]] else []):=by rw [ZU h,List.filter_append];congr 1;by_cases hp:p l[k]=true <;> simp [hp]
theorem ZA2:∀ {a b:List Vx},ZAB a b=0↔a=b
 | [],[]=>by simp [ZAB]
 | [],_::_=>by simp [ZAB]
 | _::_,[]=>by simp [ZAB]
 | x::a,y::b=>by
  unfold ZAB
  by_cases h:ZCL x y=0
  ·rw [if_pos h,ZA2]
   simp [ZB5.1 h]
  ·rw [if_neg h]
   have:x≠y:=fun e=>h (ZB5.2 e)
   simp [h,this]
theorem ZBX:∀ (k:Nat) (s:List Vx),s.length<k->ZX k s=[]
 | 0,_,h=>by omega
 | _+1,[],_=>rfl
 | k+1,v::s,h=>by
  simp only [List.length_cons] at h
  unfold ZX
  rw [ZBX k s (by omega),ZBX (k+1) s (by omega)]
  rfl
theorem ZCb:∀ (k:Nat) (s:List Vx),(ZX k s).length≤2 ^ s.length
 | 0,s=>by simp [ZX];exact Nat.one_le_two_pow
 | _+1,[]=>by simp [ZX]
 | k+1,v::s=>by
  have h1:=ZCb k s
  have h2:=ZCb (k+1) s
  unfold ZX
  rw [List.length_append,List.length_map,List.length_cons,Nat.pow_succ]
  omega
theorem ZLu (k:Nat) (s:List Vx) (i:Nat) (h:i<s.length):ZX (k+1) (s.drop i)=(ZX k (s.drop (i+1))).map (s[i] :: ·)++ZX (k+1) (s.drop (i+1)):=by
 rw [ZA6 h];rfl
theorem ZIR {u v:Vx} {s:List Vx}:Asc (u::v::s)↔ZCL u v<0/\Asc (v::s):=by
 unfold Asc
 rw [List.pairwise_cons]
 constructor
 ·rintro ⟨h1,h2⟩
  exact ⟨h1 v (by simp),h2⟩
 ·rintro ⟨h1,h2⟩
  refine ⟨fun y hy=>?_,h2⟩
  rw [List.mem_cons] at hy
  rcases hy with rfl|hy
  ·exact h1
  ·exact ZDQ h1 ((List.pairwise_cons.1 h2).1 y hy)
theorem ZFY:∀ (s:List Vx) (p:Option Vx),ZL1 p s=0↔(∀ v∈s,ZH0 v=true)/\Asc (p.toList++s)
 | [],none=>by simp [ZL1,Asc]
 | [],some u=>by simp [ZL1,Asc]
 | v::s,p=>by
  unfold ZL1
  by_cases h1:ZH0 v=false
  ·rw [if_pos h1]
   simp [h1]
  ·rw [if_neg h1]
   have h1':ZH0 v=true:=by simpa using h1
   cases p with
   | none =>
    simp only [Bool.false_eq_true,if_false]
    rw [ZFY s (some v)]
    simp [h1']
   | some u =>
    by_cases h2:0≤ZCL u v
    ·simp only [h2,decide_true,if_true]
     have:¬ Asc (u::v::s):=fun h=>by have:=(ZIR.1 h).1;omega
     simp [this]
    ·simp only [h2,decide_false,Bool.false_eq_true,if_false]
     rw [ZFY s (some v)]
     simp [h1',ZIR]
     omega
theorem Zk {s:List Vx}:ZAL s=0↔s.length≠0/\s.length≤8/\(∀ v∈s,ZH0 v=true)/\Asc s:=by
 unfold ZAL
 by_cases h1:s.length=0
 ·rw [if_pos h1];simp [h1]
 ·rw [if_neg h1]
  by_cases h2:8<s.length
  ·rw [if_pos h2]
   simp
   omega
  ·rw [if_neg h2,ZFY]
   simp only [Option.toList_none,List.nil_append]
   constructor
   ·rintro ⟨h3,h4⟩;exact ⟨h1,by omega,h3,h4⟩
   ·rintro ⟨_,_,h3,h4⟩;exact ⟨h3,h4⟩
theorem ZK6 {v:Vx}:ZH0 v=true↔0≤v.1/\v.1<8/\0≤v.2/\v.2≤1048576:=by
 unfold ZH0
 simp [and_assoc]

end
section
open Go.RowKit
def ZLc (x:Vx):List Value:=[.int .i64 x.1,.int .i64 x.2]
theorem ZOY {P:Nat->Prop} {w:World} {us:List (List Value)} {xs:List Vx} {v:Value} (hl:us.length=xs.length) (h:∀ k (h:k<us.length) (h':k<xs.length),RV (fun b=>P b/\v.ownBlock≠some b) w (.agg us[k].toArray) xs[k]):us=xs.map ZLc:=by
 apply List.ext_getElem (by simp [hl])
 intro k h1 h2
 have:=h k h1 (by omega)
 have h3:Value.agg us[k].toArray = .agg #[.int .i64 xs[k].1,.int .i64 xs[k].2]:=this
 injection h3 with h3
 rw [List.getElem_map]
 exact List.toArray_inj h3
end
end Go.Proofs.YtokmalofdapffaaGreat
