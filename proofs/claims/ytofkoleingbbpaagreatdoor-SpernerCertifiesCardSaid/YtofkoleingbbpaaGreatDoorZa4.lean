/- Part 4 of the proof. -/
import Derived.Deep.MidRow
import Derived.Deep.Upon
import Derived.StillTail
import Derived.Test.YtofkoleingbbpaaGreatDoorZa3
set_option linter.all false
set_option maxRecDepth 100000
set_option maxHeartbeats 64000000
namespace Go.Proofs.YtofkoleingbbpaaGreatDoor
section
open Go.RowKit

section
variable {P:Program} {ops:Array Oper} {hp:List HObj} {md:Region.Mode} {w:World}

def ZHT (P:Program) (md:Region.Mode) (ops:Array Oper) (hp:List HObj) (n:Nat) (L:Array Bool->List Dat->Prop):Nat->Array Bool->List Dat->Prop
 | 0,listed,a=>L listed a
 | f+1,listed,a =>
  Region.ready md ops listed≠[]/\∀i∈Region.ready md ops listed,i<n/\sOp P ops hp i (ZHT P md ops hp n L f (listed.setIfInBounds i true)) a

theorem ZCl {n g:Nat} {L:Array Bool->List Dat->Prop} {Q':Exit->Act->World->Prop} {P0:Nat->Prop} {B:Nat} {w0:World}:∀(f:Nat) (listed:Array Bool) (fr:List Dat) (a:Act) (w:World),Hp P0 B w0 hp w->Fr (Imm P0 B hp) w a fr ->
  (∀listed fr a w',Ext w w'->Hp P0 B w0 hp w'->Fr (Imm P0 B hp) w' a fr->L listed fr->wpAny P md ops Q' g listed a w')->ZHT P md ops hp n L f listed fr->wpAny P md ops Q' (f+g) listed a w
 | 0,listed,fr,a,w,hh,hf,hL,h=>by rw[Nat.zero_add];exact hL _ _ _ _ (ZWS _) hh hf h
 | f+1,listed,fr,a,w,hh,hf,hL,h=>by
  rw[show f+1+g=(f+g)+1 by omega];refine⟨fun h0=>absurd h0 h.1,fun i hi=>?_⟩;have h1:=(h.2 i hi).2;unfold sOp at h1;unfold wpOp;split
  ·rename_i ho;simp only[ho] at h1;exact ZCl f _ _ _ _ hh hf hL h1
  ·rename_i o ho;simp only[ho] at h1;obtain⟨d,h2,h3⟩:=h1;have:=h2.step (Q:=Q') hh hf (K:=wpAny P md ops Q' (f+g) (listed.setIfInBounds i true)) fun a' w' e hf'=>ZCl f _ _ _ _ (hh.ext e) hf' (fun li fr' a'' w'' e'=>hL li fr' a'' w'' (e.trans e')) h3;split
   ·rename_i hw;rw[if_pos hw] at this;exact .inl this
   ·rename_i hw;rw[if_neg hw] at this;exact this

theorem ZJP {n i:Nat} {oi:Oper} {di:Dat} {L:Array Bool->List Dat->Prop} (hi:ops[i]?=some oi)
  (hs:Region.sinkB md ops n=true) (hc:Region.chainB md ops n=true) (hn:n<ops.size) (hin:i<n)
  (hdone:∀listed a,L listed a->∀j∈Region.ready md ops listed,n≤j) :
  ∀(f:Nat) (listed:Array Bool) (fr:List Dat),HeadInv md ops n listed ->
   (∀j oj,ops[j]?=some oj->j≠i->listed.getD j true=false->(∀e∈oj.after,Region.binds md e=true->e.on≠i)->oi.apart ops oj=true) ->
   i∈Region.ready md ops listed->SYG P ops hp oi fr di ->
   ZHT P md ops hp n L f (listed.setIfInBounds i true) (ZC fr oi.dst di)->ZHT P md ops hp n L (f+1) listed fr:=by
 have one:∀ {K:List Dat->Prop} {fr:List Dat},SYG P ops hp oi fr di->K (ZC fr oi.dst di)->sOp P ops hp i K fr:=fun hy hk=>by unfold sOp;simp only[hi];exact⟨di,hy,hk⟩
 intro f;induction f with
 | zero =>
  intro listed a inv _ hr hy H;have hun:=(mem_ready.1 hr).1;refine⟨fun h=>(by rw[h] at hr;cases hr),fun j hj=>?_⟩;have hjn:j<n:=by
   rcases Nat.lt_or_ge j n with h|h
   ·exact h
   ·exact absurd hj (tail_waits hs hc hn inv _ i rfl hin hun j h)
  refine⟨hjn,?_⟩;by_cases hji:j=i
  ·subst hji;exact one hy H
  ·have:=hdone _ _ H j (ready_mono hj hji);omega
 | succ f ih =>
  intro listed a inv hfree hr hy H;have hun:=(mem_ready.1 hr).1;refine⟨fun h=>(by rw[h] at hr;cases hr),fun j hj=>?_⟩;have hjn:j<n:=by
   rcases Nat.lt_or_ge j n with h|h
   ·exact h
   ·exact absurd hj (tail_waits hs hc hn inv _ i rfl hin hun j h)
  refine⟨hjn,?_⟩;by_cases hji:j=i
  ·subst hji;exact one hy H
  ·have h1:=(H.2 j (ready_mono hj hji)).2;obtain⟨hjun,oj,hoj,hall⟩:=mem_ready.1 hj;have hnot:∀e∈oj.after,Region.binds md e=true->e.on≠i:=fun e he hb heq=>by
    have h1:=hall e he hb;rw[heq,getD_both hun] at h1;cases h1
   have h2:=ZJC hoj (hfree j oj hoj hji hjun hnot) hy h1;have hfree':∀k ok,ops[k]?=some ok->k≠i->(listed.setIfInBounds j true).getD k true=false ->
     (∀e∈ok.after,Region.binds md e=true->e.on≠i)->oi.apart ops ok=true:=fun k ok hk hki hun hno=>by
    refine hfree k ok hk hki ?_ hno;by_cases hjk:j=k
    ·subst hjk;exact hjun
    ·rw[getD_set_ne true hjk] at hun;exact hun
   refine ZGW (fun a' h3=>ih (listed.setIfInBounds j true) a' (inv.set hj hjn) hfree' (ready_mono hr (Ne.symm hji)) h3.1 ?_) h2;rw[Array.setIfInBounds_comm _ _ hji];exact h3.2

theorem ZHU {n g:Nat} {Lq:List Dat->Prop} (hs:Region.sinkB md ops n=true) (hc:Region.chainB md ops n=true) (hn:n<ops.size) :
  ∀(l:List Oper) (k:Nat) (listed:Array Bool) (fr:List Dat),(∀j,j<l.length->l[j]?=ops[k+j]?)->k+l.length=n->HeadInv md ops n listed ->
  Region.lexHead md ops g l.length k listed=true->WD P ops hp Lq l fr ->
  ZHT P md ops hp n (fun listed' a'=>Region.seqB md ops g n listed'=true/\Lq a') l.length listed fr
 | [],k,listed,a,_,hk,_,hB,h=>by
  have:k=n:=by simpa using hk
  subst this;exact⟨by simpa[Region.lexHead] using hB,by cases h;assumption⟩
 | o::l,k,listed,a,hl,hk,inv,hB,h=>by
  have h0:ops[k]?=some o:=by simpa using(hl 0 (by simp)).symm
  simp only[List.length_cons,Region.lexHead,Bool.and_eq_true] at hB;obtain⟨⟨hr,hf⟩,hB'⟩:=hB;have hkn:k<n:=by simp only[List.length_cons] at hk;omega
  have hr':k∈Region.ready md ops listed:=by simpa using hr
  cases h;rename_i d hy hK;exact ZJP h0 hs hc hn hkn (fun listed' a' hL=>seqB_ready hL.1) l.length listed a inv (Region.free_spec h0 hf) hr' hy
   (ZHU hs hc hn l (k+1) _ _ (fun j hj=>by have:=hl (j+1) (by simp;omega);simpa[Nat.add_assoc,Nat.add_comm 1 j] using this) (by simp only[List.length_cons] at hk;omega) (inv.set hr' hkn) hB' hK)

theorem WC.drawTail {id:Nat} {l:List Oper} {fr:List Dat} {Q:Z4} (n:Nat) (hm:P.follows .mixedOrders=true) (hB:Region.lexTailB .any l.toArray n=true)
  (h:WD P l.toArray hp (fun f=>WL P l.toArray Q (l.drop n) f hp) (l.take n) fr):WC P Q (.region id l.toArray true) fr hp:=by
 refine WC.of fun P0 B w0 w a hh hf=>?_;simp only[Region.lexTailB,Bool.and_eq_true,decide_eq_true_eq] at hB;obtain⟨⟨⟨⟨hsel,hn⟩,hs⟩,hc⟩,hlex⟩:=hB;have hn':n<l.length:=by simpa using hn
 have htl:(l.take n).length=n:=by simp;omega
 have hdl:(l.drop n).length=l.toArray.size-n:=by simp
 have inv0:HeadInv .any l.toArray n (Array.replicate l.toArray.size false) :=
  ⟨by simp,fun j oj _ hl=>(by rw[getD_replicate_false] at hl;cases hl),fun t _ ht=>getD_in (by simpa using ht) (getD_replicate_false _ _)⟩
 have H:=ZHU (md:=.any) (g:=l.toArray.size-n) hs hc hn (l.take n) 0 _ fr (fun j hj=>by
  have hj':j<n:=by rw[htl] at hj;exact hj
  simp[hj']) (by simpa using htl) inv0 (by rw[htl];exact hlex) h
 have hx:Ext w { w with drawn:=w.drawn+1 }:=(ZWS w).drew;refine wp_region_any hm ?_;have:=ZCl (Q':=ZCs Q P0 B w0) (g:=l.toArray.size-n) _ _ _ _ _ (hh.ext hx) (hf.ext hx) (fun listed fr' a' w' e hh' hf' hL=>by
  have:=wpAny_of_seq (md:=.any) (Q':=ZCs Q P0 B w0) (l.drop n) n listed a' w' (fun j=>by simp[List.getElem?_drop]) (by rw[hdl];exact hL.1) (hL.2.on hh' hf');rwa[hdl] at this) H
 rw[htl,show n+(l.toArray.size-n)=l.toArray.size by omega] at this;exact this
end

section
variable {P:Program} {ops:Array Oper} {hp:List HObj} {o:Oper} {fr:List Dat} {d:Dat} {Q:Z4} {rest:List Oper}
variable {dst:Option Tmp} {ty:TypeId} {ps:String} {af:Array Edge} {g:Option (Nat × Bool)}
variable {t e:TypeId} {n bytes:Nat} {z:Value} {ag:Bool}
theorem SY.build1' (E:ElT P t e 1 z bytes ag) {α:Type} {R:Rel α} {_gR:Good R} {len:Nat} {parts:Array (Nat × Operand)} {els:List α} (hx:ElsD fr R (parts.toList.map Prod.snd) els) (hparts:parts.toList=((parts.toList.map Prod.snd).zipIdx).map (fun p=>(p.2,p.1))) (hl:len=els.length) (hs:∀a,(dS R a).Shape 1 false) (hsm:els.length*1≤16777216) :
  SY P ops hp ⟨dst,.buildSlice t len parts,ty,ps,af,g⟩ fr (dS (Arr R) els):=SY.build1 E hx hparts hl hs hsm
theorem ZDl {v:Value} {e:TypeId} {α:Type} {R:Rel α} {_gR:Good R} {xs ys:List α} (h:Zk v e R xs∈hp) (he:xs=ys):FinD hp (dX v) (dS (Arr R) ys):=he ▸ FinD.row h
theorem ZBi {v:Value} {e:TypeId} {n:Nat} {α:Type} {R:Rel α} {_gR:Good R} {xs ys:List α} (h:Zx v e n R xs∈hp) (he:xs=ys):FinD hp (dX v) (dS (ArrK n R) ys):=he ▸ FinD.rowK h
theorem ZFN {n:Nat} (hn:0<n) {α:Type} {R:Rel α} [Good R] {ys:List α} (he:ys=[]):FinD hp (dX (.slice none 0 0)) (dS (ArrK n R) ys):=by subst he;exact ZWR (ZJ hn)
theorem ZAw:(dX (.agg #[.int .i64 0,.int .i64 0])).Shape 2 true:=fun _ _ _ h=>by cases (h:_=_);exact⟨[.int .i64 0,.int .i64 0],rfl,by omega,by simp[Value.oneCell'],rfl,rfl⟩
end

end
section
open Go.RowKit
section
variable {P:Program} {ops:Array Oper} {hp:List HObj} {o:Oper} {fr:List Dat} {d:Dat} {Q:Z4} {rest:List Oper}
variable {dst:Option Tmp} {ty:TypeId} {ps:String} {af:Array Edge} {g:Option (Nat × Bool)}
variable {t e:TypeId} {n bytes:Nat} {z:Value} {ag:Bool}
theorem Zp {α:Type} {R:Rel α} {_gR:Good R} {x:Operand} {xs:List Operand} {a:α} {els:List α} (h:OpD fr x (dS R a)) (k:ElsD fr R xs els):ElsD fr R (x::xs) (a::els):=ElsD.cons h k
theorem Zr {α:Type} {R:Rel α} {_gR:Good R}:ElsD fr R [] ([]:List α):=ElsD.nil
theorem ZGB {x y:Operand} (E:ElT P t e n z bytes ag) {α:Type} {R:Rel α} {_gR:Good R} {xs:List α} {j:Int} (hx:OpD fr x (dS (ArrK n R) xs)) (hy:OpD fr y (dI j)) (l:Nat) (hj:j=(l:Int)) (h1:l≤xs.length) :
  SY P ops hp ⟨dst,.slice t x (some y) none none,ty,ps,af,g⟩ fr (dS (ArrK n R) (xs.drop l)):=by
 have:=ZJf (P:=P) (ops:=ops) (hp:=hp) (dst:=dst) (ty:=ty) (ps:=ps) (af:=af) (g:=g) (_gR:=_gR) E hx (ZCt hy hj) BndD.no h1 (Nat.le_refl _);rwa[List.take_of_length_le (by simp)] at this
theorem ZQ5 {x y:Operand} (E:ElT P t e 1 z bytes ag) {α:Type} {R:Rel α} {_gR:Good R} {xs:List α} {j:Int} (hx:OpD fr x (dS (Arr R) xs)) (hy:OpD fr y (dI j)) (l:Nat) (hj:j=(l:Int)) (h1:l≤xs.length) :
  SY P ops hp ⟨dst,.slice t x (some y) none none,ty,ps,af,g⟩ fr (dS (Arr R) (xs.drop l)):=by
 have:=ZGe (P:=P) (ops:=ops) (hp:=hp) (dst:=dst) (ty:=ty) (ps:=ps) (af:=af) (g:=g) (_gR:=_gR) E hx (ZCt hy hj) BndD.no h1 (Nat.le_refl _);rwa[List.take_of_length_le (by simp)] at this
theorem ZL5 {x y:Operand} (E:ElT P t e n z bytes ag) {α:Type} {R:Rel α} {_gR:Good R} {xs:List α} {j:Int} (hx:OpD fr x (dS (ArrK n R) xs)) (hy:OpD fr y (dI j)) (l:Nat) (hj:j=(l:Int)) (h1:l≤xs.length) :
  SY P ops hp ⟨dst,.slice t x none (some y) none,ty,ps,af,g⟩ fr (dS (ArrK n R) (xs.take l)):=by
 have:=ZJf (P:=P) (ops:=ops) (hp:=hp) (dst:=dst) (ty:=ty) (ps:=ps) (af:=af) (g:=g) (_gR:=_gR) E hx (BndD.no (k:=0)) (ZCt hy hj) (Nat.zero_le _) h1;simpa using this
theorem SY.buildE (E:ElT P t e n z bytes ag) {α:Type} {R:Rel α} {_gR:Good R} {len:Nat} {parts:Array (Nat × Operand)} {els:List α} (hx:ElsD fr R (parts.toList.map Prod.snd) els) (hparts:parts.toList=((parts.toList.map Prod.snd).zipIdx).map (fun p=>(p.2,p.1))) (hl:len=els.length) (hn:0<n) (hs:∀a,(dS R a).Shape n true) (hsm:els.length*n≤16777216) :
  SY P ops hp ⟨dst,.buildSlice t len parts,ty,ps,af,g⟩ fr (dS (ArrK n R) els):=SY.buildK E hx hparts hl hn hs hsm
end

end
section
open Go.RowKit
def ZBR (P:Program) (f:FuncId):Prop:=∀(args:Array Value) (w:World),(callFunc f args).run P w = .ok (.enter f args) w
def ZK7 (P:Program) {α:Type} (A:α->List Dat) (r:α->Dat):Dat where
 rd:=fun I w v=>∃f cap,v = .func (.func f) #[] cap/\ZBR P f/\∀w',(∀k,I k->k<w.heap.size->w'.heap[k]?=w.heap[k]?)->∀(x:α) (I':Nat->Prop) (vs:List Value),vs.length=(A x).length->(∀(i:Nat) (d:Dat),(A x)[i]?=some d->d.rd I' w' (vs.getD i undef)) ->
  Calls P f (vs.toArray++cap) w' fun e w''=>∃u,e = .returned u/\Ext w' w''/\(r x).rd (fun b=>I' b\/w'.heap.size≤b) w'' u
 weak:=fun⟨f,cap,h1,h0,h2⟩ q=>⟨f,cap,h1,h0,fun w' hw'=>h2 w' fun k hk=>hw' k (q k hk)⟩
 move:=fun {P w w2 v} ⟨f,cap,h1,h0,h2⟩ q=>⟨f,cap,h1,h0,fun w' hw'=>h2 w' fun k hk hlt=>by
  have h3:=q k hk hlt;have hlt2:k<w2.heap.size:=by
   have:(w2.heap[k]?).isSome=true:=by rw[h3];simp[hlt]
   exact(Array.getElem?_eq_some_iff.1 (Option.isSome_iff_exists.1 this).choose_spec).1
  exact(hw' k hk hlt2).trans h3⟩
 bound:=fun⟨f,cap,h1,h0,h2⟩=>⟨f,cap,h1,h0,fun w' hw'=>h2 w' fun k hk hlt=>hw' k ⟨hk,hlt⟩ hlt⟩
section
variable {P:Program} {ops:Array Oper} {hp:List HObj} {o:Oper} {fr:List Dat} {d:Dat} {dst:Option Tmp} {ty:TypeId} {ps:String} {af:Array Edge} {g:Option (Nat × Bool)}
theorem ZKN {f:FuncId} {α:Type} {A:α->List Dat} {r:α->Dat} (he:ZBR P f) (h:∀x,Fn P f (A x) (r x)):(dX (.func (.func f) #[] #[])).le (ZK7 P A r):=fun I w v hv=>by
 cases (hv:_=_);refine⟨f,#[],rfl,he,fun w' _ x I' vs hl hr=>?_⟩;have:=(h x).out I' w' vs hl hr;simpa using this
theorem ZBJ {t:Tmp} {args:Array Operand} {ats:Array TypeId} {α:Type} {A:α->List Dat} {r:α->Dat} {x:α} (ht:OpD fr (.tmp t) (ZK7 P A r)) (ha:ArgsD fr args.toList (A x)) :
  SY P ops hp ⟨dst,.call { callee:=.value (.tmp t),args:=args,argTypes:=ats },ty,ps,af,g⟩ fr (r x):=SY.mk fun {P0 B w0 w a} hh ho K Q hk=>by
 obtain⟨f,cap,h1,h0,h2⟩:=ht.get (by simp[Op.operands,Call.operands]) ho;have h3:=h2 w (fun _ _ _=>rfl) x (Imm P0 B hp) (args.toList.map a.eval) (by simpa using ha.1) fun i d hd=>by
  have hi:i<args.toList.length:=by rw[ha.1];exact(List.getElem?_eq_some_iff.1 hd).1
  have h2:=ha.2 i _ d (List.getElem?_eq_getElem hi) hd;have:=h2.get (by simp only[Op.operands,Call.operands];simp) ho;have hi':i<args.size:=by simpa using hi
  simpa[List.getD,hi'] using this
 have he:(args.toList.map a.eval).toArray=args.map a.eval:=by apply Array.ext';simp
 rw[he] at h3;unfold Oper.wp;have h4:=h0 (args.map a.eval++cap) w;have:(execOp a.eval ⟨dst,.call { callee:=.value (.tmp t),args:=args,argTypes:=ats },ty,ps,af,g⟩).run P w = .ok (.enter f (args.map a.eval++cap)) w:=by
  unfold execOp;simp only[resolve];simp[h1,Deferred.ofValue,invoke,h4]
 rw[this];exact h3.mono fun e w' ⟨v,he,e1,hd⟩=>by subst he;exact hk v w' e1 ((r x).weak hd fun k hk=>hk.elim id hh.fresh)
theorem ZBj {f:FuncId} {caps:Array Operand} {cs:List Dat} {α:Type} {A:α->List Dat} {r:α->Dat} (he:ZBR P f) (h:∀x,Fn P f (A x++cs) (r x)) (hr:∀x,(r x).Bare) (ha:ArgsD fr caps.toList cs) :
  SY P ops hp ⟨dst,.makeFunc (.func f) #[] caps,ty,ps,af,g⟩ fr (ZK7 P A r):=ZWK fun {I w a} ho=>by
 refine⟨.func (.func f) #[] (caps.map a.eval),by unfold execOp;simp[Instr.makeFunc],f,_,rfl,he,fun w' hw' x I' vs hl hv=>?_⟩;have hcap:∀(i:Nat) (d:Dat),cs[i]?=some d->d.rd I w' ((caps.toList.map a.eval).getD i undef):=fun i d hd=>by
  have hi:i<caps.toList.length:=by rw[ha.1];exact(List.getElem?_eq_some_iff.1 hd).1
  have h2:=ha.2 i _ d (List.getElem?_eq_getElem hi) hd;have:=h2.get (by simp only[Op.operands];simp) ho;have hi':i<caps.size:=by simpa using hi
  have:=d.move this hw';simpa[List.getD,hi'] using this
 have:=(h x).out (fun b=>I' b\/I b) w' (vs++caps.toList.map a.eval) (by have:=ha.1;simp at this;simp[hl,this]) fun i d hd=>by
  by_cases hi:i<(A x).length
  ·rw[List.getElem?_append_left hi] at hd;have:=hv i d hd;have hi2:i<vs.length:=by omega
   rw[List.getD_eq_getElem?_getD,List.getElem?_append_left hi2,<- List.getD_eq_getElem?_getD];exact d.weak this fun _=>.inl
  ·rw[List.getElem?_append_right (by omega)] at hd;have:=hcap _ d hd;rw[List.getD_eq_getElem?_getD,List.getElem?_append_right (by omega),<- List.getD_eq_getElem?_getD,hl];exact d.weak this fun _=>.inr
 have he:(vs++caps.toList.map a.eval).toArray=vs.toArray++caps.map a.eval:=by apply Array.ext';simp
 rw[he] at this;exact this.mono fun e w'' ⟨u,h1,h2,h3⟩=>⟨u,h1,h2,hr x _ _ _ _ _ h3⟩
theorem ZLm {α:Type} {A:α->List Dat} {r:α->Dat}:(ZK7 P A r).Shape 1 false:=ZD1 fun _ _ _ h=>by obtain⟨f,c,rfl,_⟩:=h;rfl
end
end
section
open Go.RowKit
def hFr (a:Act) (fr:List Dat):HObj where
 blk:=none
 ok:=fun I w=>∀(t:Nat) (d:Dat),fr[t]?=some d->d.rd I w (a.tmps.getD t undef)
 weak:=fun h q t d hd=>d.weak (h t d hd) q
 bound:=fun h t d hd=>d.bound (h t d hd)
 move:=fun h hg hP _ t d hd=>d.grown (h t d hd) hg hP
section
variable {P:Program} {ops:Array Oper} {hp:List HObj} {o:Oper} {fr:List Dat} {d:Dat} {Q:Z4} {rest:List Oper}
variable {dst:Option Tmp} {ty:TypeId} {ps:String} {af:Array Edge} {g:Option (Nat × Bool)} {P0:Nat->Prop} {B:Nat} {w0 w:World}
theorem ZAN {gh:HObj} (hg:gh.blk=none) (l:List HObj) (k:Nat):Imm P0 B (l++gh::hp) k↔Imm P0 B (l++hp) k:=by
 unfold Imm;refine and_congr Iff.rfl ⟨fun h o ho=>h o ?_,fun h o ho=>?_⟩
 ·rcases List.mem_append.1 ho with ho|ho
  ·exact List.mem_append_left _ ho
  ·exact List.mem_append_right _ (List.mem_cons_of_mem _ ho)
 ·rcases List.mem_append.1 ho with ho|ho
  ·exact h o (List.mem_append_left _ ho)
  ·rcases List.mem_cons.1 ho with rfl|ho
   ·rw[hg];simp
   ·exact h o (List.mem_append_right _ ho)
theorem ZBU {gh:HObj} (hg:gh.blk=none) {l:List HObj} (h:Hp P0 B w0 (l++hp) w) (hok:gh.ok (Imm P0 B (l++hp)) w):Hp P0 B w0 (l++gh::hp) w where
 base:=h.base
 below:=h.below
 own:=fun o ho k hk=>by
  rcases List.mem_append.1 ho with ho|ho
  ·exact h.own o (List.mem_append_left _ ho) k hk
  ·rcases List.mem_cons.1 ho with rfl|ho
   ·rw[hg] at hk;cases hk
   ·exact h.own o (List.mem_append_right _ ho) k hk
 ok:=fun o ho=>by
  rcases List.mem_append.1 ho with ho|ho
  ·exact o.weak (h.ok o (List.mem_append_left _ ho)) fun k=>(ZAN hg l k).2
  ·rcases List.mem_cons.1 ho with rfl|ho
   ·exact o.weak hok fun k=>(ZAN hg l k).2
   ·exact o.weak (h.ok o (List.mem_append_right _ ho)) fun k=>(ZAN hg l k).2
 apart:=by
  have h1:=h.apart;rw[List.pairwise_append] at h1 ⊢;refine⟨h1.1,List.pairwise_cons.2 ⟨fun q _ k hk=>(by rw[hg] at hk;cases hk),h1.2.1⟩,fun o ho q hq k hk=>?_⟩;rcases List.mem_cons.1 hq with rfl|hq
  ·rw[hg];simp
  ·exact h1.2.2 o ho q hq k hk
theorem Hp.unghost {gh:HObj} (hg:gh.blk=none) {l:List HObj} (h:Hp P0 B w0 (l++gh::hp) w):Hp P0 B w0 (l++hp) w/\gh.ok (Imm P0 B (l++hp)) w:=by
 have hm:∀o,o∈l++hp->o∈l++gh::hp:=fun o ho=>by
  rcases List.mem_append.1 ho with ho|ho
  ·exact List.mem_append_left _ ho
  ·exact List.mem_append_right _ (List.mem_cons_of_mem _ ho)
 refine⟨⟨h.base,h.below,fun o ho=>h.own o (hm o ho),fun o ho=>o.weak (h.ok o (hm o ho)) fun k=>(ZAN hg l k).1,?_⟩,gh.weak (h.ok gh (by simp)) fun k=>(ZAN hg l k).1⟩;have h1:=h.apart;rw[List.pairwise_append] at h1 ⊢;exact⟨h1.1,(List.pairwise_cons.1 h1.2.1).2,fun o ho q hq=>h1.2.2 o ho q (List.mem_cons_of_mem _ hq)⟩
def finI (t:Nat) (K:Dat->List HObj->Prop) (gh:HObj) (hp:List HObj):Z4:=fun e f q=>(match e with|.normal|.ret=>True|_=>False)/\∃d hp2,f[t]?=some d/\q=hp2++gh::hp/\K d hp2
theorem ZOc {f:FuncId} {fn:Func} {c:Code} {t:Tmp} {args:Array Operand} {ats:Array TypeId} {ds:List Dat} (hp1:List HObj) (K:Dat->List HObj->Prop) (hf:P.funcs[f]?=some fn) (hb:fn.body=some c) (hr:fn.results=#[.tmp t]) (he:ZBR P f) (ha:ArgsD fr args.toList ds)
  (hbody:∀gh:HObj,gh.blk=none->WC P (finI t K gh hp) c (ds++List.replicate (fn.ntmps-ds.length) (dX undef)) (hp1++gh::hp))
  (hK:∀d' hp2,K d' hp2->WL P ops Q rest (ZC fr dst d') (hp2++hp)) :
  WL P ops Q (⟨dst,.call { callee:=.value (.func f),args:=args,argTypes:=ats },ty,ps,af,none⟩::rest) fr (hp1++hp):=by
 refine WL.of fun P0 B w0 w a hh hfr=>?_;have hrun:(execOp a.eval ⟨dst,.call { callee:=.value (.func f),args:=args,argTypes:=ats },ty,ps,af,none⟩).run P w = .ok (.enter f (args.map a.eval)) w:=by
  unfold execOp;simp only[resolve];simp[Act.eval,Deferred.ofValue,invoke,he _ w]
 refine wpList_plain rfl fun KK hKK=>?_;unfold Oper.wp;rw[hrun];have hgb:(hFr a fr).blk=none:=rfl;have hG:Hp P0 B w0 (hp1++hFr a fr::hp) w:=ZBU hgb hh hfr.rd;have hvs:(args.map a.eval)=(args.toList.map a.eval).toArray:=by apply Array.ext';simp
 have hl:(args.toList.map a.eval).length=ds.length:=by simpa using ha.1
 have hf0:Fr (Imm P0 B (hp1++hFr a fr::hp)) w { tmps:=(args.toList.map a.eval).toArray++Array.replicate (fn.ntmps-ds.length) undef,defers:=[] } (ds++List.replicate (fn.ntmps-ds.length) (dX undef)) :=
  ZCA hl fun i d hd=>by
   have hi:i<args.toList.length:=by rw[ha.1];exact(List.getElem?_eq_some_iff.1 hd).1
   have h2:=(ha.2 i _ d (List.getElem?_eq_getElem hi) hd).ev hfr;have hi':i<args.size:=by simpa using hi
   have:(args.toList.map a.eval).getD i undef=a.eval args.toList[i]:=by simp[List.getD,hi']
   rw[this];exact d.weak h2 fun k=>(ZAN hgb hp1 k).2
 have hcalls:Calls P f (args.map a.eval) w fun e w'=>∃v,e = .returned v/\KK (a.put dst v) w':=by
  rw[hvs];refine calls_of_wp hf hb ?_;have hwp:=(hbody (hFr a fr) hgb).on hG hf0;have hsz:(args.toList.map a.eval).toArray.size=ds.length:=by simp[<- hl]
  rw[hsz];refine Code.wp_mono (fun e a' w' ⟨f',p',q,hh',hf'⟩=>?_) hwp;obtain⟨hx,d',hp2,hd',rfl,hk'⟩:=q;obtain⟨hh2,hok2⟩:=hh'.unghost hgb;have hv:=d'.weak (hf'.rd t d' hd') fun k=>(ZAN hgb hp2 k).1;have hfr2:Fr (Imm P0 B (hp2++hp)) w' a fr:=⟨hfr.defers,hfr.size,hok2⟩;have hfin:=hKK _ _ ((hK d' hp2 hk').on hh2 (ZWN (x:=dst) hfr2 hv));cases e with
  | normal=>exact⟨hf'.defers,_,results_tmp hr _ _ _,_,rfl,hfin⟩
  | ret=>exact⟨hf'.defers,_,results_tmp hr _ _ _,_,rfl,hfin⟩
  | _=>exact hx.elim
 exact hcalls.mono fun e w' ⟨v,hv,hk⟩=>by subst hv;exact hk
end
end
section
open Go.RowKit
structure InC (P:Program) (f:FuncId) (ds:List Dat) (hp1:List HObj) (K:Dat->List HObj->Prop):Prop where
 out:∀hp:List HObj,∃(fn:Func) (c:Code) (t:Tmp),P.funcs[f]?=some fn/\fn.body=some c/\fn.results=#[.tmp t]/\∀gh:HObj,gh.blk=none->WC P (finI t K gh hp) c (ds++List.replicate (fn.ntmps-ds.length) (dX undef)) (hp1++gh::hp)
section
variable {P:Program} {ops:Array Oper} {hp:List HObj} {o:Oper} {fr:List Dat} {d:Dat} {Q:Z4} {rest:List Oper}
variable {dst:Option Tmp} {ty:TypeId} {ps:String} {af:Array Edge} {g:Option (Nat × Bool)}
theorem ZJY {f:FuncId} {fn:Func} {c:Code} {t:Tmp} {ds:List Dat} {hp1:List HObj} {K:Dat->List HObj->Prop} (hf:P.funcs[f]?=some fn) (hb:fn.body=some c) (hr:fn.results=#[.tmp t])
  (h:∀(hp:List HObj) (gh:HObj),gh.blk=none->WC P (finI t K gh hp) c (ds++List.replicate (fn.ntmps-ds.length) (dX undef)) (hp1++gh::hp)):InC P f ds hp1 K:=⟨fun hp=>⟨fn,c,t,hf,hb,hr,h hp⟩⟩
theorem ZSm {f:FuncId} {args:Array Operand} {ats:Array TypeId} {ds:List Dat} {hp1:List HObj} {K:Dat->List HObj->Prop} (hF:InC P f ds hp1 K) (he:ZBR P f) (ha:ArgsD fr args.toList ds)
  (hK:∀d' hp2,K d' hp2->WL P ops Q rest (ZC fr dst d') (hp2++hp)) :
  WL P ops Q (⟨dst,.call { callee:=.value (.func f),args:=args,argTypes:=ats },ty,ps,af,none⟩::rest) fr (hp1++hp):=by
 obtain⟨fn,c,t,hf,hb,hr,h⟩:=hF.out hp;exact ZOc hp1 K hf hb hr he ha h hK
theorem ZL7 {f:FuncId} {args:Array Operand} {ats:Array TypeId} {ds:List Dat} {o1:HObj} {e:TypeId} {n:Nat} {α:Type} {R:Rel α} {_gR:Good R} {p:List α->Prop} (hF:InC P f ds [o1] fun d' hp2=>∃v xs,p xs/\d'=dX v/\hp2=[Zx v e n R xs]) (he:ZBR P f) (ha:ArgsD fr args.toList ds)
  (hK:∀v xs,p xs->WL P ops Q rest (ZC fr dst (dX v)) (Zx v e n R xs::hp)) :
  WL P ops Q (⟨dst,.call { callee:=.value (.func f),args:=args,argTypes:=ats },ty,ps,af,none⟩::rest) fr (o1::hp) :=
 ZSm (hp1:=[o1]) hF he ha fun d' hp2 ⟨v,xs,hp,hd,hh⟩=>by subst hd;subst hh;exact hK v xs hp
theorem ZHr {α:Type} (e:TypeId) (n:Nat) (hn:0<n) (R:Rel α) [Good R] (h:WL P ops Q rest fr (Zx (.slice none 0 0) e n R ([]:List α)::hp)):WL P ops Q rest fr hp:=WL.of fun _ _ _ _ _ hh hf =>
 h.on (hh.push (ZWS _) (by simp[Zx,Value.ownBlock]) (OwnK.nil hn)) (hf.mono fun _ _ hd=>ZAJ (ZWS _) (by simp[Zx,Value.ownBlock]) hd)
theorem ZOd {f:FuncId} {args:Array Operand} {ats:Array TypeId} {ds:List Dat} {e:TypeId} {n:Nat} {α:Type} {R:Rel α} {_gR:Good R} {xs:List α} (hn:0<n) (hF:InC P f ds [] fun d' hp2=>∃v,d'=dX v/\(hp2=[Zx v e n R xs]\/v = .slice none 0 0/\xs=[]/\hp2=[])) (he:ZBR P f) (ha:ArgsD fr args.toList ds)
  (hK:∀v,WL P ops Q rest (ZC fr dst (dX v)) (Zx v e n R xs::hp)) :
  WL P ops Q (⟨dst,.call { callee:=.value (.func f),args:=args,argTypes:=ats },ty,ps,af,none⟩::rest) fr hp :=
 ZSm (hp1:=[]) hF he ha fun d' hp2 ⟨v,hd,hh⟩=>by
  subst hd;rcases hh with rfl|⟨rfl,rfl,rfl⟩
  ·exact hK v
  ·exact ZHr e n hn R (hK _)
end
end
section

abbrev Vx:=Int × Int
def ZAW (a b:Vx):Int:=if a.1<b.1 then -1 else if b.1<a.1 then 1 else if a.2<b.2 then -1 else if b.2<a.2 then 1 else 0
def ZDL (v:Vx):Bool:=decide (0≤v.1) && decide (v.1<8) && decide (0≤v.2) && decide (v.2≤1048576)
def ZAa:List Vx->List Vx->Int
 | [],[]=>0
 | [],_::_=>-1
 | _::_,[]=>1
 | x::a,y::b=>if ZAW x y=0 then ZAa a b else ZAW x y
def ZMH:Option Vx->List Vx->Int
 | _,[]=>0
 | p,v::s=>if ZDL v=false then 2 else if(match p with|some u=>decide (0≤ZAW u v)|none=>false)=true then 14 else ZMH (some v) s
def ZAC (s:List Vx):Int:=if s.length=0 then 16 else if 8<s.length then 5 else ZMH none s
def ZED:List Vx->Vx->List Vx
 | [],v=>[v]
 | u::s,v=>if ZAW v u<0 then v::u::s else u::ZED s v
def ZFL (s:List Vx) (v:Vx):List Vx:=if v∈s then s else ZED s v

theorem ZBl (a b:Vx):(ZAW a b = -1/\ZAW b a=1)\/(ZAW a b=1/\ZAW b a = -1)\/(ZAW a b=0/\ZAW b a=0/\a=b):=by
 obtain⟨x,y⟩:=a;obtain⟨u,v⟩:=b;simp only[ZAW,Prod.mk.injEq]
 repeat' split
 all_goals omega
theorem ZBy {a b:Vx}:ZAW a b=0↔a=b:=by
 constructor
 ·intro h;rcases ZBl a b with h'|h'|h'
  ·omega
  ·omega
  ·exact h'.2.2
 ·rintro rfl;rcases ZBl a a with h'|h'|h' <;> omega
theorem ZIa (a b:Vx):ZAW b a = - ZAW a b:=by
 rcases ZBl a b with h'|h'|h' <;> omega
theorem ZBD {a b c:Vx} (h:ZAW a b<0) (h':ZAW b c<0):ZAW a c<0:=by
 obtain⟨x,y⟩:=a;obtain⟨u,v⟩:=b;obtain⟨p,q⟩:=c
 revert h h'
 simp only[ZAW]
 repeat' split
 all_goals omega

def Asc (s:List Vx):Prop:=s.Pairwise fun a b=>ZAW a b<0

theorem asc_ext:∀ {a b:List Vx},Asc a->Asc b->(∀x,x∈a↔x∈b)->a=b
 | [],[],_,_,_=>rfl
 | [],y::b,_,_,h=>absurd ((h y).2 (by simp)) (by simp)
 | x::a,[],_,_,h=>absurd ((h x).1 (by simp)) (by simp)
 | x::a,y::b,ha,hb,h=>by
  unfold Asc at ha hb;rw[List.pairwise_cons] at ha hb;have hxy:x=y:=by
   have h1:=(h x).1 (by simp);have h2:=(h y).2 (by simp);rw[List.mem_cons] at h1 h2;rcases h1 with h1|h1
   ·exact h1
   rcases h2 with h2|h2
   ·exact h2.symm
   have h3:=hb.1 x h1;have h4:=ha.1 y h2;have:=ZIa x y;omega
  subst hxy;congr 1;refine asc_ext ha.2 hb.2 fun z=>?_;have hz:=h z;rw[List.mem_cons,List.mem_cons] at hz;have hne:∀ {l:List Vx},(∀a∈l,ZAW x a<0)->z∈l->z≠x:=by
   intro l hl hm he;subst he;have:=hl z hm;rw[ZBy.2 rfl] at this;omega
  constructor
  ·intro hm;rcases hz.1 (.inr hm) with h1|h1
   ·exact absurd h1 (hne ha.1 hm)
   ·exact h1
  ·intro hm;rcases hz.2 (.inr hm) with h1|h1
   ·exact absurd h1 (hne hb.1 hm)
   ·exact h1

theorem ZIv:∀ {s:List Vx} {v x:Vx},x∈ZED s v↔x=v\/x∈s
 | [],v,x=>by simp[ZED]
 | u::s,v,x=>by
  unfold ZED;split
  ·simp
  ·rw[List.mem_cons,ZIv,List.mem_cons];constructor
   ·rintro(h|h|h) <;> simp[h]
   ·rintro(h|h|h) <;> simp[h]
theorem ZRz {s:List Vx} {v x:Vx}:x∈ZFL s v↔x=v\/x∈s:=by
 unfold ZFL;split
 ·rename_i h;constructor
  ·exact fun hx=>.inr hx
  ·rintro(rfl|hx)
   ·exact h
   ·exact hx
 ·exact ZIv
theorem ZME:∀ {s:List Vx} {v:Vx},Asc s->v∉s->Asc (ZED s v)
 | [],v,_,_=>by simp[ZED,Asc]
 | u::s,v,hs,hv=>by
  unfold Asc at hs;have hs':=hs;rw[List.pairwise_cons] at hs;unfold ZED;split
  ·rename_i hlt;unfold Asc;rw[List.pairwise_cons];refine⟨fun y hy=>?_,hs'⟩;rw[List.mem_cons] at hy;rcases hy with rfl|hy
   ·exact hlt
   ·exact ZBD hlt (hs.1 y hy)
  ·rename_i hge;unfold Asc;rw[List.pairwise_cons];refine⟨fun y hy=>?_,ZME hs.2 fun h=>hv (List.mem_cons_of_mem _ h)⟩;rw[ZIv] at hy;rcases hy with rfl|hy
   ·have hne:y≠u:=fun h=>hv (by rw[h];simp);rcases ZBl u y with h|h|h
    ·omega
    ·omega
    ·exact absurd h.2.2.symm hne
   ·exact hs.1 y hy
theorem ZRZ {s:List Vx} {v:Vx} (hs:Asc s):Asc (ZFL s v):=by
 unfold ZFL;split
 ·exact hs
 ·exact ZME hs (by assumption)

def ZC3 (s:List Vx) (l:List Vx):List Vx:=l.foldl ZFL s
theorem ZIW:∀ {l s:List Vx},Asc s->Asc (ZC3 s l)
 | [],_,h=>h
 | _::l,_,h=>ZIW (l:=l) (ZRZ h)
theorem ZGQ:∀ {l s:List Vx} {x:Vx},x∈ZC3 s l↔x∈s\/x∈l
 | [],s,x=>by simp[ZC3]
 | v::l,s,x=>by
  show x∈ZC3 (ZFL s v) l↔_;rw[ZGQ,ZRz,List.mem_cons];constructor
  ·rintro((h|h)|h) <;> simp[h]
  ·rintro(h|h|h) <;> simp[h]

def ofV (l:List Vx):List Vx × Int:=if l.length=0 then([],16) else if l.all ZDL=false then([],2) else if 8<(ZC3 [] l).length then([],5) else(ZC3 [] l,0)
def Z8 (a b:List Vx):Bool:=a.all fun x=>decide (x∈b)
def ZT:Nat->List Vx->List (List Vx)
 | 0,_=>[[]]
 | _+1,[]=>[]
 | k+1,v::s=>(ZT k s).map (v :: ·)++ZT (k+1) s
def ZDg (s:List Vx) (k:Int):List (List Vx) × Int:=if ZAC s≠0 then([],ZAC s) else if k<1\/(s.length:Int)<k then([],2) else(ZT k.toNat s,0)
def ZEk (a b:List Vx) (p:Bool):List Vx:=a.filter fun x=>decide (x∈b) == p
def ZU4:List Vx->Bool
 | []=>true
 | [_]=>true
 | u::v::s=>if u.1=v.1 then false else ZU4 (v::s)
theorem Zv {α:Type} {l:List α} {k:Nat} (h:k<l.length):l.drop k=l[k]::l.drop (k+1):=List.drop_eq_getElem_cons h
theorem Ze {α:Type} {l:List α} {k:Nat} (h:k<l.length):l.take (k+1)=l.take k++[l[k]]:=List.take_succ_eq_append_getElem h
theorem ZEu (a b:List Vx) (k:Nat):ZAa (a.drop k) (b.drop k)=if h:k<a.length then(if h':k<b.length then(if ZAW a[k] b[k]=0 then ZAa (a.drop (k+1)) (b.drop (k+1)) else ZAW a[k] b[k]) else 1) else if k<b.length then -1 else 0:=by
 by_cases h:k<a.length
 ·by_cases h':k<b.length
  ·rw[dif_pos h,dif_pos h',Zv h,Zv h'];rfl
  ·rw[dif_pos h,dif_neg h',Zv h,List.drop_of_length_le (l:=b) (by omega)];rfl
 ·by_cases h':k<b.length
  ·rw[dif_neg h,if_pos h',Zv h',List.drop_of_length_le (l:=a) (by omega)];rfl
  ·rw[dif_neg h,if_neg h',List.drop_of_length_le (l:=b) (by omega),List.drop_of_length_le (l:=a) (by omega)];rfl
theorem ZGq (s:List Vx) (k:Nat) (h:k<s.length):ZMH (s.take k).getLast? (s.drop k)=if ZDL s[k]=false then 2 else if(match (s.take k).getLast? with|some u=>decide (0≤ZAW u s[k])|none=>false)=true then 14 else ZMH (s.take (k+1)).getLast? (s.drop (k+1)):=by
 have e:(s.take (k+1)).getLast?=some s[k]:=by rw[Ze h,List.getLast?_append];rfl
 rw[Zv h,e];rfl
theorem ZDA (s:List Vx) (k:Nat) (h:k<s.length) (h0:0<k):(s.take k).getLast?=some s[k-1]:=by
 obtain⟨j,rfl⟩:∃j,k=j+1:=⟨k-1,by omega⟩;rw[Ze (by omega),List.getLast?_append];rfl

theorem ZGv {a b:List Vx} {k:Nat} (h:k<a.length) (h':k<b.length) (hc:ZAW a[k] b[k]=0):ZAa (a.drop k) (b.drop k)=ZAa (a.drop (k+1)) (b.drop (k+1)):=by rw[ZEu,dif_pos h,dif_pos h',if_pos hc]
theorem Zu {α:Type} {l:List α} {k:Nat} (h:k<l.length) {x:α}:x∈l.take (k+1)↔x∈l.take k\/x=l[k]:=by rw[Ze h,List.mem_append,List.mem_singleton]
theorem ZIT {l:List Vx} {p:Vx->Bool} {k:Nat} (h:k<l.length):(l.take (k+1)).all p=((l.take k).all p && p l[k]):=by rw[Ze h,List.all_append];simp only[List.all_cons,List.all_nil,Bool.and_true]
theorem ZBM:∀ {a b:List Vx},ZAa a b=0↔a=b
 | [],[]=>by simp[ZAa]
 | [],_::_=>by simp[ZAa]
 | _::_,[]=>by simp[ZAa]
 | x::a,y::b=>by
  unfold ZAa;by_cases h:ZAW x y=0
  ·rw[if_pos h,ZBM];simp[ZBy.1 h]
  ·rw[if_neg h];have:x≠y:=fun e=>h (ZBy.2 e);simp[h,this]
theorem ZAh:∀(k:Nat) (s:List Vx),s.length<k->ZT k s=[]
 | 0,_,h=>by omega
 | _+1,[],_=>rfl
 | k+1,v::s,h=>by
  simp only[List.length_cons] at h;unfold ZT;rw[ZAh k s (by omega),ZAh (k+1) s (by omega)];rfl
theorem ZAo:∀(k:Nat) (s:List Vx),(ZT k s).length≤2 ^ s.length
 | 0,s=>by simp[ZT];exact Nat.one_le_two_pow
 | _+1,[]=>by simp[ZT]
 | k+1,v::s=>by
  have h1:=ZAo k s;have h2:=ZAo (k+1) s;unfold ZT;rw[List.length_append,List.length_map,List.length_cons,Nat.pow_succ];omega
theorem ZFp (k:Nat) (s:List Vx) (i:Nat) (h:i<s.length):ZT (k+1) (s.drop i)=(ZT k (s.drop (i+1))).map (s[i] :: ·)++ZT (k+1) (s.drop (i+1)):=by
 rw[Zv h];rfl
theorem ZJs {u v:Vx} {s:List Vx}:Asc (u::v::s)↔ZAW u v<0/\Asc (v::s):=by
 unfold Asc;rw[List.pairwise_cons];constructor
 ·rintro⟨h1,h2⟩;exact⟨h1 v (by simp),h2⟩
 ·rintro⟨h1,h2⟩;refine⟨fun y hy=>?_,h2⟩;rw[List.mem_cons] at hy;rcases hy with rfl|hy
  ·exact h1
  ·exact ZBD h1 ((List.pairwise_cons.1 h2).1 y hy)
theorem ZGr:∀(s:List Vx) (p:Option Vx),ZMH p s=0↔(∀v∈s,ZDL v=true)/\Asc (p.toList++s)
 | [],none=>by simp[ZMH,Asc]
 | [],some u=>by simp[ZMH,Asc]
 | v::s,p=>by
  unfold ZMH;by_cases h1:ZDL v=false
  ·rw[if_pos h1];simp[h1]
  ·rw[if_neg h1];have h1':ZDL v=true:=by simpa using h1
   cases p with
   | none =>
    simp only[Bool.false_eq_true,if_false];rw[ZGr s (some v)];simp[h1']
   | some u =>
    by_cases h2:0≤ZAW u v
    ·simp only[h2,decide_true,if_true];have:¬ Asc (u::v::s):=fun h=>by have:=(ZJs.1 h).1;omega
     simp[this]
    ·simp only[h2,decide_false,Bool.false_eq_true,if_false];rw[ZGr s (some v)];simp[h1',ZJs];omega
theorem Zi {s:List Vx}:ZAC s=0↔s.length≠0/\s.length≤8/\(∀v∈s,ZDL v=true)/\Asc s:=by
 unfold ZAC;by_cases h1:s.length=0
 ·rw[if_pos h1];simp[h1]
 ·rw[if_neg h1];by_cases h2:8<s.length
  ·rw[if_pos h2];simp;omega
  ·rw[if_neg h2,ZGr];simp only[Option.toList_none,List.nil_append];constructor
   ·rintro⟨h3,h4⟩;exact⟨h1,by omega,h3,h4⟩
   ·rintro⟨_,_,h3,h4⟩;exact⟨h3,h4⟩
theorem ZMn {v:Vx}:ZDL v=true↔0≤v.1/\v.1<8/\0≤v.2/\v.2≤1048576:=by
 unfold ZDL;simp[and_assoc]

end
section
open Go.RowKit
def ZCr (x:Vx):List Value:=[.int .i64 x.1,.int .i64 x.2]
theorem ZLt {P:Nat->Prop} {w:World} {us:List (List Value)} {xs:List Vx} {v:Value} (hl:us.length=xs.length) (h:∀k (h:k<us.length) (h':k<xs.length),RV (fun b=>P b/\v.ownBlock≠some b) w (.agg us[k].toArray) xs[k]):us=xs.map ZCr:=by
 apply List.ext_getElem (by simp[hl]);intro k h1 h2;have:=h k h1 (by omega);have h3:Value.agg us[k].toArray = .agg #[.int .i64 xs[k].1,.int .i64 xs[k].2]:=this;injection h3 with h3;rw[List.getElem_map];exact List.toArray_inj h3
end
section
open Go.RowKit

def Zs (xs:List Vx):List Value:=(xs.map ZCr).flatten
theorem ZCL:Zs []=[]:=rfl
theorem ZA1 (x:Vx) (l:List Vx):Zs (x::l) = .int .i64 x.1 :: .int .i64 x.2::Zs l:=rfl
theorem Zz:∀(l:List Vx),(Zs l).length=l.length*2
 | []=>rfl
 | x::l=>by rw[ZA1];simp only[List.length_cons,Zz l];omega
theorem ZBZ (a b:List Vx):Zs (a++b)=Zs a++Zs b:=by unfold Zs;rw[List.map_append,List.flatten_append]
theorem ZEx (l:List Vx):∀c∈Zs l,c.oneCell'=true:=fun c hc=>by
 unfold Zs at hc;obtain⟨u,hu,hc⟩:=List.mem_flatten.1 hc;obtain⟨x,_,rfl⟩:=List.mem_map.1 hu;simp[ZCr] at hc;rcases hc with rfl|rfl <;> rfl
theorem ZG3 {l:List Vx} {k:Nat} (h:k<l.length):(Zs l)[k*2]?=some (.int .i64 l[k].1)/\(Zs l)[k*2+1]?=some (.int .i64 l[k].2):=by
 have e:l=l.take k++l[k]::l.drop (k+1):=by rw[<- List.drop_eq_getElem_cons h,List.take_append_drop]
 have hl:(Zs (l.take k)).length=k*2:=by rw[Zz,List.length_take];congr 1;omega
 have e2:Zs l=Zs (l.take k)++(.int .i64 l[k].1 :: .int .i64 l[k].2::Zs (l.drop (k+1))):=by
  conv=>lhs;rw[e]
  rw[ZBZ,ZA1]
 rw[e2];constructor
 ·rw[List.getElem?_append_right (by omega)];simp[hl]
 ·rw[List.getElem?_append_right (by omega)];simp[hl]
def ZLE (w:World) (g cap:Nat) (e:TypeId) (xs:List Vx):Prop :=
 ∃tl:List Value,w.heap[g]?=some (.cells (Zs xs++tl).toArray e (0,0))/\xs.length≤cap/\cap≤maxLen/\(Zs xs++tl).length=cap*2
abbrev ZS8 (g cap:Nat) (xs:List Vx):Value:=.slice (some ⟨g,0,none⟩) xs.length cap
theorem ZH7 {e:TypeId} {I:Nat->Prop} {w:World} {g cap:Nat} {xs:List Vx}:OwnK 0 e 2 RV I w (ZS8 g cap xs) xs↔ZLE w g cap e xs:=by
 constructor
 ·rintro⟨us,h1,h2,h0,h3,h4⟩;have hus:=ZLt h1 h4;subst hus;obtain⟨hfl,hv⟩:=h3;rcases hv with ⟨hz,_⟩|⟨g',cap',cur,hv,hB,hg,hc1,hc2,hc3,hc4⟩
  ·cases hz
  ·cases hv;refine⟨cur.toList.drop (xs.length*2),?_,hc1,hc2,?_⟩
   ·have:Zs xs++cur.toList.drop (xs.length*2)=cur.toList:=by
     unfold Zs;rw[<- hc4,List.take_append_drop]
    rw[this];exact hg
   ·have:Zs xs++cur.toList.drop (xs.length*2)=cur.toList:=by
     unfold Zs;rw[<- hc4,List.take_append_drop]
    rw[this];simpa using hc3
 ·rintro⟨tl,hg,hc1,hc2,hc3⟩;refine⟨xs.map ZCr,by simp,fun u hu=>?_,by decide,⟨?_,.inr ⟨g,cap,_,rfl,Nat.zero_le _,hg,hc1,hc2,by simpa using hc3,?_⟩⟩,fun k h h'=>?_⟩
  ·obtain⟨y,_,rfl⟩:=List.mem_map.1 hu;exact⟨rfl,by simp[ZCr,Value.oneCell']⟩
  ·exact Zz xs
  ·show(Zs xs++tl).take (xs.length*2)=Zs xs;rw[<- Zz xs,List.take_left'];rfl
  ·show Value.agg _=_;rw[List.getElem_map];rfl
theorem ZC7 {g:Nat} {e:TypeId} {fz:Nat × Nat}:∀(vs M A C:List Value) (w:World),M.length=vs.length->w.heap[g]?=some (.cells (A++M++C).toArray e fz)->(w.setCells g A.length vs).heap[g]?=some (.cells (A++vs++C).toArray e fz)
 | [],M,A,C,w,h,hg=>by
  have:M=[]:=List.eq_nil_of_length_eq_zero (by simpa using h);subst this;exact hg
 | v::r,[],A,C,w,h,hg=>by simp at h
 | v::r,m::M,A,C,w,h,hg=>by
  have hg':(w.setCell ⟨g,A.length,none⟩ v).heap[g]?=some (.cells ((A++[v])++M++C).toArray e fz):=by
   simp only[World.setCell,Array.getElem?_modify,if_true,hg,Option.map_some];simp
  have:=ZC7 r M (A++[v]) C _ (by simpa using h) hg';rw[World.setCells];have e1:(A++[v]).length=A.length+1:=by simp
  rw[e1] at this;rw[this];simp
theorem ZQF {w:World} {g cap:Nat} {e:TypeId} {xs:List Vx} (h:ZLE w g cap e xs) (k:Nat) (ys:List Vx) (hk:k+ys.length≤xs.length) :
  ZLE (w.setCells g (k*2) (Zs ys)) g cap e (xs.take k++ys++xs.drop (k+ys.length)):=by
 obtain⟨tl,hg,hc1,hc2,hc3⟩:=h;have e1:xs=xs.take k++(xs.drop k).take ys.length++xs.drop (k+ys.length):=by
  rw[List.append_assoc,<- List.drop_drop,List.take_append_drop,List.take_append_drop]
 have hA:(Zs (xs.take k)).length=k*2:=by rw[Zz,List.length_take];congr 1;omega
 have hM:(Zs ((xs.drop k).take ys.length)).length=(Zs ys).length:=by rw[Zz,Zz,List.length_take,List.length_drop];congr 1;omega
 have e2:Zs xs++tl=Zs (xs.take k)++Zs ((xs.drop k).take ys.length)++(Zs (xs.drop (k+ys.length))++tl):=by
  conv=>lhs;rw[e1]
  rw[ZBZ,ZBZ];simp
 rw[e2] at hg;have:=ZC7 _ _ _ _ w hM hg;rw[hA] at this;have hlen:(xs.take k++ys++xs.drop (k+ys.length)).length=xs.length:=by simp;omega
 refine⟨tl,?_,by omega,hc2,?_⟩
 ·rw[this,ZBZ,ZBZ];simp
 ·rw[List.length_append,Zz] at hc3 ⊢;rw[hlen];exact hc3
theorem ZQE {w:World} {g o:Nat} {vs:List Value}:w.grownBy (w.setCells g o vs) (some g):=by
 refine⟨World.os_setCells w g o vs,?_,World.output_setCells w g o vs,?_,fun k hk hne=>World.heap_setCells_other w g o vs hk fun e=>hne (by rw[e])⟩
 ·revert o w
  induction vs with
  | nil=>intros;rfl
  | cons v r ih=>intro w o;rw[World.setCells];exact ih
 ·revert o w
  induction vs with
  | nil=>intros;exact Nat.le_refl _
  | cons v r ih =>
   intro w o;rw[World.setCells];refine Nat.le_trans ?_ ih;simp[World.setCell]
theorem ZI8 {w:World} {g cap:Nat} {e:TypeId} {xs:List Vx} (h:ZLE w g cap e xs) (j:Nat) (hj:j<xs.length*2):w.cell? ⟨g,j,none⟩=(Zs xs)[j]?/\w.frozen? ⟨g,j,none⟩=false:=by
 obtain⟨tl,hg,_⟩:=h;refine⟨?_,by simp[World.frozen?,hg]⟩;simp only[World.cell?,hg];simp only[Option.isSome_none,Bool.false_eq_true,if_false];rw[List.getElem?_toArray,List.getElem?_append_left (by rw[Zz];exact hj)]
theorem ZHL {w:World} {g cap:Nat} {e:TypeId} {xs:List Vx} (h:ZLE w g cap e xs) (o n:Nat) (hj:o+n≤xs.length*2):w.there g o n:=fun j hjn=>by
 have:=ZI8 h (o+j) (by omega);refine⟨?_,this.2⟩;rw[this.1,List.getElem?_eq_getElem (by rw[Zz];omega)];rfl
section
variable {P:Program} {ops:Array Oper} {hp:List HObj} {o:Oper} {fr:List Dat} {d:Dat} {Q:Z4} {rest:List Oper}
variable {dst:Option Tmp} {ty:TypeId} {ps:String} {af:Array Edge} {g:Option (Nat × Bool)} {b cap:Nat} {e t T:TypeId} {xs:List Vx} {bytes:Nat} {z:Value} {ag:Bool}
abbrev hV (b N cap:Nat) (e:TypeId) (xs:List Vx):HObj:=Zx (.slice (some ⟨b,0,none⟩) N cap) e 2 RV xs
theorem ZEX {I:Nat->Prop} {w:World} {N:Nat}:(hV b N cap e xs).ok I w↔N=xs.length/\ZLE w b cap e xs:=by
 constructor
 ·intro h;have hN:N=xs.length:=by
   obtain⟨us,h1,h2,h0,⟨_,h3⟩,h4⟩:=h;rcases h3 with ⟨hz,_⟩|⟨g,cap,cur,hv,_⟩
   ·cases hz
   ·cases hv;rfl
  subst hN;exact⟨rfl,ZH7.1 h⟩
 ·rintro⟨rfl,h⟩;exact ZH7.2 h
theorem ZRE {c:Code} {v:Value} (hne:0<xs.length) (h:∀b cap,v=ZS8 b cap xs->xs.length≤cap->cap≤maxLen->WC P Q c fr (Zx v e 2 RV xs::hp)):WC P Q c fr (Zx v e 2 RV xs::hp):=WC.of fun P0 B w0 w a hh hf=>by
 obtain⟨us,h1,h2,h0,⟨_,h3⟩,h4⟩:=hh.ok (Zx v e 2 RV xs) (by simp);rcases h3 with ⟨_,hz⟩|⟨g,cap,cur,hv,hB,hg,hc1,hc2,_⟩
 ·omega
 ·exact(h g cap hv hc1 hc2).on hh hf
theorem ZJa {x i:Operand} {n m off k:Nat} {j:Int} (E:ElT P t e 2 z bytes ag) (hx:OpD fr x (dX (.slice (some ⟨b,off,none⟩) n m))) (hi:OpD fr i (dI j)) (hj:j=(k:Int)) (hk:k<n) :
  SY P ops hp ⟨dst,.indexAddr t x i,ty,ps,af,g⟩ fr (dX (.pointer (some ⟨b,off+k*2,none⟩))):=ZWK fun {I w a} ho=>by
 have h1:a.eval x=_:=hx.get (by simp[Op.operands]) ho;have h2:a.eval i=_:=hi.get (by simp[Op.operands]) ho;refine⟨_,?_,rfl⟩;unfold execOp;simp only[h1,h2,hj,Sem.run_bind,ZBP (w:=w) E b off n m k .i64 hk,Result.andThen_ok,Sem.run_pure]
theorem ZGC {x:Operand} {j k:Nat} (T':TyI P T 2 true) (hx:OpD fr x (dX (.pointer (some ⟨b,j,none⟩)))) {N:Nat} (hm:hV b N cap e xs∈hp) (hj:j=k*2) (hk:k<xs.length) :
  SY P ops hp ⟨dst,.load T x,ty,ps,af,g⟩ fr (dS RV xs[k]):=ZAG fun {P0 B w0 w a} hh ho=>by
 have h1:a.eval x=_:=hx.get (by simp[Op.operands]) ho;have hrow:=(ZEX.1 (hh.ok _ hm)).2;subst hj;have hc:Cells (fun _=>True) w b (k*2) 2 true (.agg (ZCr xs[k]).toArray):=by
  refine⟨trivial,ZCr xs[k],rfl,by decide,by simp[ZCr,Value.oneCell'],fun i c hc=>?_,rfl⟩;have hi:i<2:=(List.getElem?_eq_some_iff.1 hc).1;have hcell:=(ZI8 hrow (k*2+i) (by omega)).1;rw[hcell]
  match i,hi,hc with
  | 0,_,hc=>cases hc;exact(ZG3 hk).1
  | 1,_,hc=>cases hc;exact(ZG3 hk).2
 refine⟨_,w,?_,ZWS _,rfl⟩;unfold execOp;simp only[h1,Sem.run_bind,ZA8 T' hc,Result.andThen_ok,Sem.run_pure];rfl
theorem ZJk {o:Oper} {k N:Nat} {ys:List Vx} (hg:o.guard=none) (hk:k+ys.length≤xs.length) (hrun:∀ {I:Nat->Prop} {w:World} {a:Act},Fr I w a fr->ZLE w b cap e xs->∃out:Next,(out = .skip\/∃r,out = .value r)/\(execOp a.eval o).run P w = .ok out (w.setCells b (k*2) (Zs ys)))
  (h:WL P ops Q rest (ZC fr o.dst dA) (hV b N cap e (xs.take k++ys++xs.drop (k+ys.length))::hp)):WL P ops Q (o::rest) fr (hV b N cap e xs::hp):=by
 refine WL.of fun P0 B w0 w a hh hf=>?_;obtain⟨hN,hrow⟩:=ZEX.1 (hh.ok (hV b N cap e xs) (by simp));obtain⟨out,ho,hr⟩:=hrun hf hrow;have hgr:w.grownBy (w.setCells b (k*2) (Zs ys)) (hV b N cap e xs).blk:=ZQE;have hok:(hV b N cap e (xs.take k++ys++xs.drop (k+ys.length))).ok (fun j=>Imm P0 B (hV b N cap e xs::hp) j/\j<w.heap.size) (w.setCells b (k*2) (Zs ys)) :=
  ZEX.2 ⟨by rw[hN];simp;omega,ZQF hrow k ys hk⟩
 refine wpList_plain hg fun K hK=>?_;unfold Oper.wp;rw[hr];have fin:∀r:Value,K (a.put o.dst r) (w.setCells b (k*2) (Zs ys)):=fun r=>hK _ _ (h.on (hh.write hgr (.inl rfl) hok) (ZWN (hf.mono fun _ _ hd=>Zd (o':=hV b N cap e (xs.take k++ys++xs.drop (k+ys.length))) hgr (.inl rfl) hd) (d:=dA) trivial));rcases ho with rfl|⟨r,rfl⟩
 ·exact fin undef
 ·exact fin r
theorem ZOi {p:Tmp} {x:Operand} {j k N:Nat} {y:Vx} (T':TyI P T 2 true) (hp0:OpD fr (.tmp p) (dX (.pointer (some ⟨b,j,none⟩)))) (hx:OpD fr x (dS RV y)) (hj:j=k*2) (hk:k<xs.length)
  (h:WL P ops Q rest (ZC fr dst dA) (hV b N cap e (xs.set k y)::hp)):WL P ops Q (⟨dst,.store T (.tmp p) x,ty,ps,af,none⟩::rest) fr (hV b N cap e xs::hp):=by
 refine ZJk (k:=k) (ys:=[y]) rfl (by simp;omega) (fun {I w a} hf hrow=>⟨.skip,.inl rfl,?_⟩) ?_
 ·have h1:a.eval (.tmp p)=_:=hp0.ev hf;have h2:a.eval x = .agg #[.int .i64 y.1,.int .i64 y.2]:=hx.ev hf;subst hj;have:=run_storeVar_mid (P:=P) w b (k*2) T #[.int .i64 y.1,.int .i64 y.2] (ZHL hrow _ _ (by simp;omega)) (by simpa using T'.size) (by simp[Value.oneCell']);unfold execOp;simp only[h1,h2,Instr.storeAt,Instr.sureAddr,Sem.run_bind,Sem.run_pure,Result.andThen_ok,this];rfl
 ·have e1:xs.take k++[y]++xs.drop (k+[y].length)=xs.set k y:=by
   rw[List.set_eq_take_append_cons_drop,if_pos hk];simp
  rw[e1];exact h
theorem ZOX {x:Operand} {off n m k N:Nat} (hu:P.underlying t=some (.slice e)) (hz:∀w,(zeroValue e).run P w = .ok (.agg #[.int .i64 0,.int .i64 0]) w) (hx:OpD fr x (dX (.slice (some ⟨b,off,none⟩) n m))) (hj:off=k*2) (hn:0<n) (hk:k+n=xs.length)
  (h:WL P ops Q rest (ZC fr dst dA) (hV b N cap e (xs.take k++List.replicate n (0,0))::hp)):WL P ops Q (⟨dst,.call { callee:=.builtin .clear,args:=#[x],argTypes:=#[t] },ty,ps,af,none⟩::rest) fr (hV b N cap e xs::hp):=by
 refine ZJk (k:=k) (ys:=List.replicate n (0,0)) rfl (by simp;omega) (fun {I w a} hf hrow=>⟨.value (.tuple #[]),.inr ⟨_,rfl⟩,?_⟩) ?_
 ·have h1:a.eval x=_:=hx.ev hf;subst hj;have hzc:(Builtin.zeroCells #[Value.int .i64 0,.int .i64 0] n).toList=Zs (List.replicate n (0,0)):=by
   have e1:Zs (List.replicate n (0,0))=List.replicate (n*2) (.int .i64 0):=by
    clear h hn hk hx h1;induction n with
    | zero=>rfl
    | succ n ih=>rw[List.replicate_succ,ZA1,ih,Nat.succ_mul,List.replicate_succ,List.replicate_succ]
   rw[e1];simp only[Builtin.zeroCells];apply List.ext_getElem
   ·simp
   ·intro i h1 h2;have:i % 2<2:=Nat.mod_lt _ (by decide);simp;rcases(by omega:i % 2=0\/i % 2=1) with h|h <;> simp[h]
  have hst:=run_storeCells_cells (P:=P) b (k*2) (Zs (List.replicate n (0,0))) 0 w (fun j hj=>by
   rw[Zz,List.length_replicate] at hj;exact((ZHL hrow (k*2) (n*2) (by omega)) j hj).1) (fun j hj=>by
   rw[Zz,List.length_replicate] at hj;exact((ZHL hrow (k*2) (n*2) (by omega)) j hj).2) (ZEx _)
  obtain⟨m',rfl⟩:∃m,n=m+1:=⟨n-1,by omega⟩;unfold execOp;simp[resolve,invoke,builtin,h1,Builtin.clear_,run_underlying hu,hz,Value.cells,hzc,hst]
 ·have e1:xs.take k++List.replicate n (0,0)++xs.drop (k+(List.replicate n ((0,0):Vx)).length)=xs.take k++List.replicate n (0,0):=by
   rw[List.length_replicate,hk,List.drop_length,List.append_nil]
  rw[e1];exact h
theorem SY.fromO {x y:Operand} {off n m l:Nat} {j:Int} (E:ElT P t e 2 z bytes ag) (hx:OpD fr x (dX (.slice (some ⟨b,off,none⟩) n m))) (hy:OpD fr y (dI j)) (hj:j=(l:Int)) (hl:l<n) (hm:n≤m) :
  SY P ops hp ⟨dst,.slice t x (some y) none none,ty,ps,af,g⟩ fr (dX (.slice (some ⟨b,off+l*2,none⟩) (n-l) (m-l))):=ZWK fun {I w a} ho=>by
 have h1:a.eval x=_:=hx.get (by simp[Op.operands]) ho;have h2:a.eval y=_:=hy.get (by simp[Op.operands]) ho;refine⟨_,?_,rfl⟩;have hr:=ZFE (w:=w) (ad:=some ⟨b,off,none⟩) (len:=n) (cap:=m) (lo:=some (.int .i64 (l:Int))) (hi:=none) (l:=l) (h:=n) E (.inr ⟨_,rfl⟩) (.inl ⟨rfl,rfl⟩) (by omega) hm;rw[if_neg (by omega)] at hr;unfold execOp;simp only[h1,h2,hj,Option.map_none,Option.map_some,Sem.run_bind,hr,Result.andThen_ok,Sem.run_pure];simp[Addr.add_lit]
theorem SY.uptoO {x y:Operand} {off n m l:Nat} {j:Int} (E:ElT P t e 2 z bytes ag) (hx:OpD fr x (dX (.slice (some ⟨b,off,none⟩) n m))) (hy:OpD fr y (dI j)) (hj:j=(l:Int)) (hl:l≤n) (hm:n≤m) (h0:0<m) :
  SY P ops hp ⟨dst,.slice t x none (some y) none,ty,ps,af,g⟩ fr (dX (.slice (some ⟨b,off,none⟩) l m)):=ZWK fun {I w a} ho=>by
 have h1:a.eval x=_:=hx.get (by simp[Op.operands]) ho;have h2:a.eval y=_:=hy.get (by simp[Op.operands]) ho;refine⟨_,?_,rfl⟩;have hr:=ZFE (w:=w) (ad:=some ⟨b,off,none⟩) (len:=n) (cap:=m) (lo:=none) (hi:=some (.int .i64 (l:Int))) (l:=0) (h:=l) E (.inl ⟨rfl,rfl⟩) (.inr ⟨_,rfl⟩) (by omega) (by omega);rw[if_neg (by omega)] at hr;unfold execOp;simp only[h1,h2,hj,Option.map_none,Option.map_some,Sem.run_bind,hr,Result.andThen_ok,Sem.run_pure];simp[Addr.add_lit]
end
end
section
open Go.RowKit
theorem ZDJ {ops:Array Oper} {o:Oper} {fr:List Dat} {gi:Nat} {pol:Bool} {t:Tmp} (hg:o.guard=some (gi,pol)) (ht:(ops[gi]?).bind (·.dst)=some t) (hf:fr[t]?=some (dX undef)):WantS ops o fr false:=WantS.mk fun I w a ho=>by
 have h1:a.tmps.getD t undef=undef:=ho.2 t (ZKH hg ht) _ hf;have hlt:t<a.tmps.size:=by rw[ho.1];exact(List.getElem?_eq_some_iff.1 hf).1
 have h2:a.tmps[t]?=some undef:=by
  rw[Array.getD_eq_getD_getElem?] at h1;rw[Array.getElem?_eq_getElem hlt] at h1 ⊢;simpa using h1
 simp[Region.wanted,hg,yielded,ht,h2,undef]
end
section
open Go.RowKit
section
variable {P:Program} {ops:Array Oper} {hp:List HObj} {fr:List Dat} {dst:Option Tmp} {ty:TypeId} {ps:String} {af:Array Edge} {g:Option (Nat × Bool)}
theorem ZII {x:Operand} {A T:TypeId} {u:Value} {n:Int} (hx:OpD fr x (dX u)) (hr:∀w,(convert A T u).run P w = .ok (.int .i64 n) w) :
  SY P ops hp ⟨dst,.convert A T x,ty,ps,af,g⟩ fr (dI n):=ZWK fun {I w a} ho=>by
 have h1:a.eval x=u:=hx.get (by simp[Op.operands]) ho;refine⟨.int .i64 n,?_,rfl⟩;unfold execOp;simp only[h1,Sem.run_bind,hr,Result.andThen_ok,Sem.run_pure]
end
end
end Go.Proofs.YtofkoleingbbpaaGreatDoor
namespace Go.Proofs.YtofkoleingbbpaaGreatDoor.I
section
open Go.RowKit
theorem ZE4 {P:Program} {o:Oper} {a:Act} {w:World} {K:Act->World->Prop} {Q:Exit->Act->World->Prop} (h:o.wp P a w K Q):o.wpIn Fence.wide 0 P a w K Q:=by
 refine⟨fun _ _=>trivial,?_⟩;show o.uponIn Fence.wide 0 P a K Q ((execOp a.eval o).run P w);unfold Oper.wp at h
 revert h
 generalize (execOp a.eval o).run P w=r;intro h;unfold Oper.upon at h;unfold Oper.uponIn;split at h
 ·exact h
 ·exact h
 ·exact h
 ·exact⟨fun h=>by simp[Fence.wide] at h,callsIn_wide.2 h⟩
 ·exact⟨fun h=>by simp[Fence.wide] at h,fun c cs _=>let ⟨v,w2,r,s⟩:=h c cs;⟨v,w2,r,stepsIn_wide.2 s⟩⟩
 ·exact h
 ·exact h.elim
theorem ZBe {P:Program} {ops:Array Oper} {Q:Exit->Act->World->Prop} {rest:List Oper} {o:Oper} {a:Act} {w:World} (hg:o.guard=none)
  (h:∀K:Act->World->Prop,(∀a w,wpListIn Fence.wide 0 P ops Q rest a w->K a w)->o.wp P a w K Q):wpListIn Fence.wide 0 P ops Q (o::rest) a w :=
 wpListIn_plain hg fun K hK=>ZE4 (h K hK)
end
end Go.Proofs.YtofkoleingbbpaaGreatDoor.I
namespace Go.Proofs.YtofkoleingbbpaaGreatDoor
def ZWb:=@SY.build1'
def ZWg:=@SY.buildE
def ZWk:=@WC.drawTail
end Go.Proofs.YtofkoleingbbpaaGreatDoor
