/- Part 6: walks by contracts, and plain laws. -/
import Derived.Deep.Upon
import Derived.Shelf.Strconv.Itoa3
import Derived.Shelf.Strings.BuilderK
import Derived.StillTail
import Derived.Test.YtlgmojhmmbhgfaaGreatDoorProg
import Derived.Test.YtlgmojhmmbhgfaaGreatDoorVg5
set_option linter.unusedVariables false
set_option linter.unusedSimpArgs false
set_option linter.unusedSectionVars false
set_option maxRecDepth 100000
set_option maxHeartbeats 4000000
namespace Go.Proofs.YtlgmojhmmbhgfaaGreatDoor
section
open Go.RowKit

section
variable {P:Program} {ops:Array Oper} {hp:List HObj} {md:Region.Mode} {w:World}

def ZFA (P:Program) (md:Region.Mode) (ops:Array Oper) (hp:List HObj) (n:Nat) (L:Array Bool->List Dat->Prop):Nat->Array Bool->List Dat->Prop
 | 0,listed,a=>L listed a
 | f+1,listed,a =>
  Region.ready md ops listed≠[]/\∀ i∈Region.ready md ops listed,i<n/\sOp P ops hp i (ZFA P md ops hp n L f (listed.setIfInBounds i true)) a

theorem ZCV {n g:Nat} {L:Array Bool->List Dat->Prop} {Q':Exit->Act->World->Prop} {P0:Nat->Prop} {B:Nat} {w0:World}:∀ (f:Nat) (listed:Array Bool) (fr:List Dat) (a:Act) (w:World),Hp P0 B w0 hp w->Fr (Imm P0 B hp) w a fr ->
  (∀ listed fr a w',Ext w w'->Hp P0 B w0 hp w'->Fr (Imm P0 B hp) w' a fr->L listed fr->wpAny P md ops Q' g listed a w')->ZFA P md ops hp n L f listed fr->wpAny P md ops Q' (f+g) listed a w
 | 0,listed,fr,a,w,hh,hf,hL,h=>by rw [Nat.zero_add];exact hL _ _ _ _ (Ext.refl _) hh hf h
 | f+1,listed,fr,a,w,hh,hf,hL,h=>by
  rw [show f+1+g=(f+g)+1 by omega]
  refine ⟨fun h0=>absurd h0 h.1,fun i hi=>?_⟩
  have h1:=(h.2 i hi).2
  unfold sOp at h1
  unfold wpOp
  split
  ·rename_i ho;simp only [ho] at h1
   exact ZCV f _ _ _ _ hh hf hL h1
  ·rename_i o ho;simp only [ho] at h1
   obtain ⟨d,h2,h3⟩:=h1
   have:=h2.step (Q:=Q') hh hf (K:=wpAny P md ops Q' (f+g) (listed.setIfInBounds i true)) fun a' w' e hf'=>ZCV f _ _ _ _ (hh.ext e) hf' (fun li fr' a'' w'' e'=>hL li fr' a'' w'' (e.trans e')) h3
   split
   ·rename_i hw;rw [if_pos hw] at this;exact .inl this
   ·rename_i hw;rw [if_neg hw] at this;exact this

theorem ZII {n i:Nat} {oi:Oper} {di:Dat} {L:Array Bool->List Dat->Prop} (hi:ops[i]?=some oi)
  (hs:Region.sinkB md ops n=true) (hc:Region.chainB md ops n=true) (hn:n<ops.size) (hin:i<n)
  (hdone:∀ listed a,L listed a->∀ j∈Region.ready md ops listed,n≤j) :
  ∀ (f:Nat) (listed:Array Bool) (fr:List Dat),HeadInv md ops n listed ->
   (∀ j oj,ops[j]?=some oj->j≠i->listed.getD j true=false->(∀ e∈oj.after,Region.binds md e=true->e.on≠i)->oi.apart ops oj=true) ->
   i∈Region.ready md ops listed->SYG P ops hp oi fr di ->
   ZFA P md ops hp n L f (listed.setIfInBounds i true) (ZB fr oi.dst di)->ZFA P md ops hp n L (f+1) listed fr:=by
 have one:∀ {K:List Dat->Prop} {fr:List Dat},SYG P ops hp oi fr di->K (ZB fr oi.dst di)->sOp P ops hp i K fr:=fun hy hk=>by unfold sOp;simp only [hi];exact ⟨di,hy,hk⟩
 intro f
 induction f with
 | zero =>
  intro listed a inv _ hr hy H
  have hun:=(mem_ready.1 hr).1
  refine ⟨fun h=>(by rw [h] at hr;cases hr),fun j hj=>?_⟩
  have hjn:j<n:=by
   rcases Nat.lt_or_ge j n with h|h
   ·exact h
   ·exact absurd hj (tail_waits hs hc hn inv _ i rfl hin hun j h)
  refine ⟨hjn,?_⟩
  by_cases hji:j=i
  ·subst hji;exact one hy H
  ·have:=hdone _ _ H j (ready_mono hj hji)
   omega
 | succ f ih =>
  intro listed a inv hfree hr hy H
  have hun:=(mem_ready.1 hr).1
  refine ⟨fun h=>(by rw [h] at hr;cases hr),fun j hj=>?_⟩
  have hjn:j<n:=by
   rcases Nat.lt_or_ge j n with h|h
   ·exact h
   ·exact absurd hj (tail_waits hs hc hn inv _ i rfl hin hun j h)
  refine ⟨hjn,?_⟩
  by_cases hji:j=i
  ·subst hji;exact one hy H
  ·have h1:=(H.2 j (ready_mono hj hji)).2
   obtain ⟨hjun,oj,hoj,hall⟩:=mem_ready.1 hj
   have hnot:∀ e∈oj.after,Region.binds md e=true->e.on≠i:=fun e he hb heq=>by
    have h1:=hall e he hb
    rw [heq,getD_both hun] at h1
    cases h1
   have h2:=ZIA hoj (hfree j oj hoj hji hjun hnot) hy h1
   have hfree':∀ k ok,ops[k]?=some ok->k≠i->(listed.setIfInBounds j true).getD k true=false ->
     (∀ e∈ok.after,Region.binds md e=true->e.on≠i)->oi.apart ops ok=true:=fun k ok hk hki hun hno=>by
    refine hfree k ok hk hki ?_ hno
    by_cases hjk:j=k
    ·subst hjk;exact hjun
    ·rw [getD_set_ne true hjk] at hun;exact hun
   refine ZFk (fun a' h3=>ih (listed.setIfInBounds j true) a' (inv.set hj hjn) hfree' (ready_mono hr (Ne.symm hji)) h3.1 ?_) h2
   rw [Array.setIfInBounds_comm _ _ hji]
   exact h3.2

theorem ZC0 {n g:Nat} {Lq:List Dat->Prop} (hs:Region.sinkB md ops n=true) (hc:Region.chainB md ops n=true) (hn:n<ops.size) :
  ∀ (l:List Oper) (k:Nat) (listed:Array Bool) (fr:List Dat),(∀ j,j<l.length->l[j]?=ops[k+j]?)->k+l.length=n->HeadInv md ops n listed ->
  Region.lexHead md ops g l.length k listed=true->WD P ops hp Lq l fr ->
  ZFA P md ops hp n (fun listed' a'=>Region.seqB md ops g n listed'=true/\Lq a') l.length listed fr
 | [],k,listed,a,_,hk,_,hB,h=>by
  have:k=n:=by simpa using hk
  subst this
  exact ⟨by simpa [Region.lexHead] using hB,by cases h;assumption⟩
 | o::l,k,listed,a,hl,hk,inv,hB,h=>by
  have h0:ops[k]?=some o:=by simpa using (hl 0 (by simp)).symm
  simp only [List.length_cons,Region.lexHead,Bool.and_eq_true] at hB
  obtain ⟨⟨hr,hf⟩,hB'⟩:=hB
  have hkn:k<n:=by simp only [List.length_cons] at hk;omega
  have hr':k∈Region.ready md ops listed:=by simpa using hr
  cases h
  rename_i d hy hK
  exact ZII h0 hs hc hn hkn (fun listed' a' hL=>seqB_ready hL.1) l.length listed a inv (Region.free_spec h0 hf) hr' hy
   (ZC0 hs hc hn l (k+1) _ _ (fun j hj=>by have:=hl (j+1) (by simp;omega);simpa [Nat.add_assoc,Nat.add_comm 1 j] using this) (by simp only [List.length_cons] at hk;omega) (inv.set hr' hkn) hB' hK)

theorem WC.drawTail {id:Nat} {l:List Oper} {fr:List Dat} {Q:ZAL} (n:Nat) (hm:P.follows .mixedOrders=true) (hB:Region.lexTailB .any l.toArray n=true)
  (h:WD P l.toArray hp (fun f=>WL P l.toArray Q (l.drop n) f hp) (l.take n) fr):WC P Q (.region id l.toArray true) fr hp:=by
 refine WC.of fun P0 B w0 w a hh hf=>?_
 simp only [Region.lexTailB,Bool.and_eq_true,decide_eq_true_eq] at hB
 obtain ⟨⟨⟨⟨hsel,hn⟩,hs⟩,hc⟩,hlex⟩:=hB
 have hn':n<l.length:=by simpa using hn
 have htl:(l.take n).length=n:=by simp;omega
 have hdl:(l.drop n).length=l.toArray.size-n:=by simp
 have inv0:HeadInv .any l.toArray n (Array.replicate l.toArray.size false) :=
  ⟨by simp,fun j oj _ hl=>(by rw [getD_replicate_false] at hl;cases hl),fun t _ ht=>getD_in (by simpa using ht) (getD_replicate_false _ _)⟩
 have H:=ZC0 (md:=.any) (g:=l.toArray.size-n) hs hc hn (l.take n) 0 _ fr (fun j hj=>by
  have hj':j<n:=by rw [htl] at hj;exact hj
  simp [hj']) (by simpa using htl) inv0 (by rw [htl];exact hlex) h
 have hx:Ext w { w with drawn:=w.drawn+1 }:=(Ext.refl w).drew
 refine wp_region_any hm ?_
 have:=ZCV (Q':=ZCE Q P0 B w0) (g:=l.toArray.size-n) _ _ _ _ _ (hh.ext hx) (hf.ext hx) (fun listed fr' a' w' e hh' hf' hL=>by
  have:=wpAny_of_seq (md:=.any) (Q':=ZCE Q P0 B w0) (l.drop n) n listed a' w' (fun j=>by simp [List.getElem?_drop]) (by rw [hdl];exact hL.1) (hL.2.on hh' hf')
  rwa [hdl] at this) H
 rw [htl,show n+(l.toArray.size-n)=l.toArray.size by omega] at this
 exact this
end

def ZIv {α:Type} (n:Nat) (R:Rel α) [Good R] (xs:List α):Dat where
 rd:=fun I w v=>ArrK n R I w v xs/\∃ a,v = .slice (some a) xs.length xs.length
 weak:=fun ⟨h,k⟩ q=>⟨Good.weak (R:=ArrK n R) h q,k⟩
 move:=fun ⟨h,k⟩ q=>⟨Good.move (R:=ArrK n R) h q,k⟩
 bound:=fun ⟨h,k⟩=>⟨Good.bound (R:=ArrK n R) h,k⟩
theorem ZSi {α:Type} {n:Nat} {R:Rel α} {_gR:Good R} {xs:List α}:(ZIv n R xs).le (dS (ArrK n R) xs):=fun _ _ _ h=>h.1
section
variable {P:Program} {ops:Array Oper} {hp:List HObj} {o:Oper} {fr:List Dat} {d:Dat} {Q:ZAL} {rest:List Oper}
variable {dst:Option Tmp} {ty:TypeId} {ps:String} {af:Array Edge} {g:Option (Nat × Bool)}
variable {t e:TypeId} {n bytes:Nat} {z:Value} {ag:Bool}
theorem SY.fullK (E:ElT P t e n z bytes ag) {α:Type} {R:Rel α} {_gR:Good R} {len:Nat} {parts:Array (Nat × Operand)} {xs:List Operand} {els:List α} (hparts:parts.toList=(xs.zipIdx).map (fun p=>(p.2,p.1))) (hx:ElsD fr R xs els) (hl:len=els.length) (hn:0<n) (hs:∀ a,(dS R a).Shape n true) (hsm:els.length*n≤16777216) :
  SY P ops hp ⟨dst,.buildSlice t len parts,ty,ps,af,g⟩ fr (ZIv n R els):=ZAO fun {P0 B w0 w a} hh ho=>by
 obtain ⟨css,hr,hcl,hcn,hel⟩:=ZBd E hx hl hparts hs hsm hh ho
 refine ⟨_,_,hr,Ext.of_alloc _ _,⟨some ⟨w.heap.size,0,none⟩,els.length,rfl,Nat.le_refl _,by simp only [maxLen];have:els.length*1≤els.length*n:=Nat.mul_le_mul_left _ hn;omega,hn,fun k hk=>?_⟩,_,rfl⟩
 have hkc:k<css.length:=by omega
 obtain ⟨u,hu,hR⟩:=hel k css[k] els[k] (List.getElem?_eq_getElem hkc) (List.getElem?_eq_getElem hk)
 simp only [if_true] at hu
 subst hu
 have hm:=hcn css[k] (List.getElem_mem hkc)
 refine ⟨css[k],w.heap.size,0,Good.ext (R:=R) hR (Ext.of_alloc _ _),hm.1,hm.2,rfl,hh.fresh (Nat.le_refl _),fun j c hc=>?_⟩
 rw [cell_of_row _ _ _ _ _ _ (Zk w _),Nat.zero_add]
 simpa using Zm (fun u hu=>(hcn u hu).1) hkc hc
theorem ZGv {α:Type} {R:Rel α} {I:Nat->Prop} {w:World} {a:Addr} {cap:Nat} {xs:List α} (h:ArrK n R I w (.slice (some a) xs.length cap) xs):0<n/\xs.length≤cap/\∃ news:List (List Value),news.length=xs.length/\(∀ u∈news,u.length=n/\∀ c∈u,c.oneCell'=true)/\(∀ j u,news.flatten[j]?=some u->w.cell? (a.add j)=some u) /\
  ∀ (k:Nat) (h:k<news.length) (h':k<xs.length),R I w (.agg news[k].toArray) xs[k]:=by
 obtain ⟨ad,cap',hv,c1,c2,c0,c3⟩:=h
 cases hv
 have hch:∀ k:Nat,∃ cs:List Value,∀ h:k<xs.length,cs.length=n/\(∀ c∈cs,c.oneCell'=true)/\(∀ j c,cs[j]?=some c->w.cell? (a.add (k*n+j))=some c)/\R I w (.agg cs.toArray) xs[k]:=fun k=>by
  by_cases hk:k<xs.length
  ·obtain ⟨cs,b,off,r1,r2,r3,r4,r5,r6⟩:=c3 k hk
   cases r4
   exact ⟨cs,fun _=>⟨r2,r3,fun j c hc=>by rw [Addr.add_lit,<- Nat.add_assoc];exact r6 j c hc,r1⟩⟩
  ·exact ⟨[],fun h=>absurd h hk⟩
 obtain ⟨f,hfch⟩:=Classical.axiomOfChoice hch
 have hmem:∀ u∈(List.range xs.length).map f,∃ j,j<xs.length/\u=f j:=fun u hu=>by
  simp only [List.mem_map,List.mem_range] at hu
  obtain ⟨j,hj,rfl⟩:=hu
  exact ⟨j,hj,rfl⟩
 refine ⟨c0,c1,(List.range xs.length).map f,by simp,fun u hu=>by obtain ⟨j,hj,rfl⟩:=hmem u hu;exact ⟨(hfch j hj).1,(hfch j hj).2.1⟩,fun j u hu=>?_,fun k h1 h2=>by
  simp only [List.getElem_map,List.getElem_range]
  exact (hfch k h2).2.2.2⟩
 have hlt:=(List.getElem?_eq_some_iff.1 hu).1
 have hfl:((List.range xs.length).map f).flatten.length=xs.length*n:=by
  rw [ZBN (n:=n) fun u hu=>by obtain ⟨j,hj,rfl⟩:=hmem u hu;exact (hfch j hj).1];simp
 rw [hfl] at hlt
 have hq:j / n<xs.length:=(Nat.div_lt_iff_lt_mul c0).2 hlt
 have hr:j % n<n:=Nat.mod_lt _ c0
 have hj:j=(j / n)*n+j % n:=by rw [Nat.mul_comm];exact (Nat.div_add_mod j n).symm
 have hlen':=(hfch (j / n) hq).1
 have hg:=Zm (us:=(List.range xs.length).map f) (n:=n) (k:=j / n) (j:=j % n) (fun u hu=>by obtain ⟨j,hj,rfl⟩:=hmem u hu;exact (hfch j hj).1) (by simpa using hq) (c:=(f (j / n))[j % n]'(by omega)) (by simp)
 rw [<- hj,hu] at hg
 cases hg
 have:=(hfch (j / n) hq).2.2.1 (j % n) _ (List.getElem?_eq_getElem (by omega))
 rw [<- hj] at this
 exact this
theorem ZFp {s y:Operand} (E:ElT P t e n z bytes ag) {α:Type} {R:Rel α} {_gR:Good R} {xs ys:List α} (hs:OpD fr s (ZIv n R xs)) (hy:OpD fr y (dS (ArrK n R) ys)) (hby:0<bytes) (hlen:(xs.length+ys.length)*bytes≤140737488355328) :
  SY P ops hp ⟨dst,.call { callee:=.builtin .append,args:=#[s,y],argTypes:=#[t,t] },ty,ps,af,g⟩ fr (dS (ArrK n R) (xs++ys)):=ZAO fun {P0 B w0 w a} hh ho=>by
 obtain ⟨h1,a1,hv1⟩:=hs.get (by simp [Op.operands,Call.operands]) ho
 have h2:ArrK n R _ w (a.eval y) ys:=hy.get (by simp [Op.operands,Call.operands]) ho
 obtain ⟨i,hi,hz,hsz,hb⟩:=info_parts E.info
 have hm:xs.length+ys.length≤maxLen:=by
  have:(xs.length+ys.length)*1≤(xs.length+ys.length)*bytes:=Nat.mul_le_mul_left _ hby
  simp only [maxLen];omega
 have h1':=h1
 rw [hv1] at h1'
 have fin:∀ v' w',(Builtin.append_ #[t,t] ty #[a.eval s,a.eval y]).run P w = .ok v' w'->Ext w w'->ArrK n R (Imm P0 B hp) w' v' (xs++ys)->∃ v w',(execOp a.eval ⟨dst,.call { callee:=.builtin .append,args:=#[s,y],argTypes:=#[t,t] },ty,ps,af,g⟩).run P w = .ok (.value v) w'/\Ext w w'/\(dS (ArrK n R) (xs++ys)).rd (Imm P0 B hp) w' v:=by
  intro v' w' hr hx hd
  refine ⟨v',w',?_,hx,hd⟩
  unfold execOp
  simp only [resolve,invoke,builtin,List.map_toArray,List.map_cons,List.map_nil,Sem.run_bind,Sem.run_pure,Result.andThen_ok,hr]
 have h2':=h2
 obtain ⟨ad2,cap2,hv2,q1,q2,q0,q3⟩:=h2
 by_cases h0:ys=[]
 ·subst h0
  have hsrc:Src P i.size t (a.eval y) 0 [] w:=by
   rw [hv2]
   cases ad2 with
   | none=>exact Src.ofNil w E.und cap2
   | some ad2=>exact Src.ofSlice w E.und ad2 0 cap2 [] (by simp) (fun j u h=>by simp at h) (fun u h=>by simp at h)
  refine fin (a.eval s) w ?_ (Ext.refl _) (by rw [List.append_nil];exact h1)
  have:=run_append_nothing (P:=P) w t t ty e i E.und hi (some a1) xs.length xs.length (Nat.le_refl _) (a.eval y) hsrc
  rw [hv1];exact this
 ·cases ad2 with
  | none =>
   obtain ⟨_,_,_,_,_,_,hc,_⟩:=q3 0 (List.length_pos_iff.2 h0)
   cases hc
  | some ad2 =>
   rw [hv2] at h2'
   obtain ⟨n0,_,o1,ol,os,oc,oe⟩:=ZGv h1'
   obtain ⟨_,_,n1,nl,ns,nc,ne⟩:=ZGv h2'
   have hpos:0<ys.length:=List.length_pos_iff.2 h0
   obtain ⟨v',w',hr,hown,hgr⟩:=run_append_arg_grows (P:=P) w t ty e i z n bytes E.und hi hz hsz hb E.zs n0 a1 xs.length xs.length o1.flatten (by rw [ZBN fun u h=>(os u h).1,ol]) oc ad2 ys.length cap2 n1.flatten (by rw [ZBN fun u h=>(ns u h).1,nl]) nc (by omega) hm hlen
   have hx:Ext w w':=⟨hgr.os,hgr.tape,hgr.output,hgr.size,fun k hk=>hgr.block k hk (by simp)⟩
   refine fin v' w' (by rw [hv1,hv2];exact hr) hx ?_
   obtain ⟨a3,cap3,hv3,d1,d2,d3⟩:=ZAA hown
   refine ⟨a3,cap3,by rw [List.length_append];exact hv3,by rw [List.length_append];exact d1,d2,n0,fun k hk=>?_⟩
   have hall:∀ u∈o1++n1,u.length=n:=fun u hu=>by
    rcases List.mem_append.1 hu with h|h
    ·exact (os u h).1
    ·exact (ns u h).1
   have hkl:k<(o1++n1).length:=by rw [List.length_append] at hk ⊢;omega
   have hfl:o1.flatten++n1.flatten=(o1++n1).flatten:=List.flatten_append.symm
   rw [hfl] at d3
   have hmem:(o1++n1)[k].length=n/\∀ c∈(o1++n1)[k],c.oneCell'=true:=by
    rcases List.mem_append.1 (List.getElem_mem hkl) with h|h
    ·exact os _ h
    ·exact ns _ h
   have hc0:0<(o1++n1)[k].length:=by rw [hmem.1];exact n0
   obtain ⟨gb,ha,_,hB,_⟩:=d3 (k*n+0) (o1++n1)[k][0] (Zm hall hkl (List.getElem?_eq_getElem hc0))
   have hR:R (Imm P0 B hp) w (.agg (o1++n1)[k].toArray) (xs++ys)[k]:=by
    by_cases hk1:k<o1.length
    ·rw [List.getElem_append_left hk1,List.getElem_append_left (by omega)]
     exact oe k hk1 (by omega)
    ·rw [List.getElem_append_right (by omega),List.getElem_append_right (by omega)]
     have:=ne (k-o1.length) (by rw [List.length_append] at hkl;omega) (by rw [List.length_append] at hk;omega)
     have e3:k-o1.length=k-xs.length:=by rw [ol]
     simp only [e3] at this ⊢
     exact this
   refine ⟨(o1++n1)[k],gb,0,Good.ext (R:=R) hR hx,hmem.1,hmem.2,ha,hh.fresh hB,fun j c hc=>?_⟩
   obtain ⟨g',ha',_,_,hc'⟩:=d3 (k*n+j) c (Zm hall hkl hc)
   rw [ha] at ha'
   cases ha'
   rw [Nat.zero_add];exact hc'
theorem SY.build1' (E:ElT P t e 1 z bytes ag) {α:Type} {R:Rel α} {_gR:Good R} {len:Nat} {parts:Array (Nat × Operand)} {els:List α} (hx:ElsD fr R (parts.toList.map Prod.snd) els) (hparts:parts.toList=((parts.toList.map Prod.snd).zipIdx).map (fun p=>(p.2,p.1))) (hl:len=els.length) (hs:∀ a,(dS R a).Shape 1 false) (hsm:els.length*1≤16777216) :
  SY P ops hp ⟨dst,.buildSlice t len parts,ty,ps,af,g⟩ fr (dS (Arr R) els):=SY.build1 E hx hparts hl hs hsm
theorem ZFm {v:Value} {e:TypeId} {α:Type} {R:Rel α} {_gR:Good R} {xs ys:List α} (h:ZW v e R xs∈hp) (he:xs=ys):FinD hp (dX v) (dS (Arr R) ys):=he ▸ FinD.row h
theorem ZBQ {v:Value} {e:TypeId} {n:Nat} {α:Type} {R:Rel α} {_gR:Good R} {xs ys:List α} (h:ZV v e n R xs∈hp) (he:xs=ys):FinD hp (dX v) (dS (ArrK n R) ys):=he ▸ FinD.rowK h
theorem ZB4 {n:Nat} (hn:0<n) {α:Type} {R:Rel α} [Good R] {ys:List α} (he:ys=[]):FinD hp (dX (.slice none 0 0)) (dS (ArrK n R) ys):=by subst he;exact FinD.le (ZH hn)
theorem ZAF:(dX (.agg #[.int .i64 0,.int .i64 0])).Shape 2 true:=fun _ _ _ h=>by cases (h:_=_);exact ⟨[.int .i64 0,.int .i64 0],rfl,by omega,by simp [Value.oneCell'],rfl,rfl⟩
theorem ZR6 {x y:Operand} {T T2:TypeId} {p q:Bool} (hx:OpD fr x (dB p)) (hy:OpD fr y (dB q)) (hq:∀ (x y:Operand) (p q:Bool) w,(do eqGuard .eql T x y (.bool p) (.bool q);Go.binOp .eql T (.bool p) (.bool q)).run P w = .ok (.bool (p == q)) w):SY P ops hp ⟨dst,.binOp .eql T x y T2,ty,ps,af,g⟩ fr (dB (p == q)):=SY.val fun {I w a} ho=>by
 have h1:a.eval x = .bool p:=hx.get (by simp [Op.operands]) ho
 have h2:a.eval y = .bool q:=hy.get (by simp [Op.operands]) ho
 refine ⟨.bool (p == q),?_,rfl⟩
 have:=hq x y p q w
 unfold execOp
 simp only [h1,h2]
 rw [Sem.run_bind,this]
 simp
theorem ZSC {x y:Operand} {T T2:TypeId} {p q:Bool} (hx:OpD fr x (dB p)) (hy:OpD fr y (dB q)) (hq:∀ (x y:Operand) (p q:Bool) w,(do eqGuard .neq T x y (.bool p) (.bool q);Go.binOp .neq T (.bool p) (.bool q)).run P w = .ok (.bool (p != q)) w):SY P ops hp ⟨dst,.binOp .neq T x y T2,ty,ps,af,g⟩ fr (dB (p != q)):=SY.val fun {I w a} ho=>by
 have h1:a.eval x = .bool p:=hx.get (by simp [Op.operands]) ho
 have h2:a.eval y = .bool q:=hy.get (by simp [Op.operands]) ho
 refine ⟨.bool (p != q),?_,rfl⟩
 have:=hq x y p q w
 unfold execOp
 simp only [h1,h2]
 rw [Sem.run_bind,this]
 simp
end

end
end Go.Proofs.YtlgmojhmmbhgfaaGreatDoor
namespace Go.Proofs
section
open Go.Shelf
def Tryz.lays169_ren:Go.Shelf.Ren:=⟨fun|169=>61|n=>n,fun|70=>94|9=>9|0=>0|72=>97|37=>95|127=>133|3=>3|5=>5|n=>n,fun|n=>n⟩
theorem Tryz.lays169:Go.Proofs.Lays.n169 Tryz.prog Tryz.lays169_ren:={
 mixed:=by kernel_rfl
 f169:=Tryz.func61.trans (congrArg some (by kernel_rfl))
 t0:=Tryz.underlying0
 a0:=Tryz.isAgg0
 z0:=Tryz.sizeOf0
 v0:=Tryz.zeroValue0
 t3:=Tryz.underlying3
 a3:=Tryz.isAgg3
 z3:=Tryz.sizeOf3
 v3:=Tryz.zeroValue3
 t9:=Tryz.underlying9
 a9:=Tryz.isAgg9
 z9:=Tryz.sizeOf9
 v9:=Tryz.zeroValue9
 t37:=Tryz.underlying95
 a37:=Tryz.isAgg95
 z37:=Tryz.sizeOf95
 v37:=Tryz.zeroValue95
 t70:=Tryz.underlying94
 a70:=Tryz.isAgg94
 z70:=Tryz.sizeOf94
 v70:=Tryz.zeroValue94
 t72:=Tryz.underlying97
 a72:=Tryz.isAgg97
 z72:=Tryz.sizeOf97
 v72:=Tryz.zeroValue97
 t127:=Tryz.underlying133
 a127:=Tryz.isAgg133
 z127:=Tryz.sizeOf133
 v127:=Tryz.zeroValue133 }
def Tryz.laysM171_ren:Go.Shelf.Ren:=⟨fun|171=>60|243=>96|246=>118|283=>133|284=>134|285=>135|286=>136|129=>128|317=>151|318=>152|319=>153|320=>154|337=>159|338=>160|n=>n,fun|3=>3|9=>9|2=>2|4=>4|171=>164|0=>0|53=>160|37=>95|5=>5|173=>166|212=>180|51=>158|20=>20|213=>181|46=>136|232=>188|233=>189|n=>n,fun|17=>0|18=>1|19=>2|n=>n⟩
theorem Tryz.laysM171:Go.Proofs.LaysM.n171 Tryz.prog Tryz.laysM171_ren:={
 mixed:=by kernel_rfl
 f129:=Tryz.func128.trans (congrArg some (by kernel_rfl))
 f171:=Tryz.func60.trans (congrArg some (by kernel_rfl))
 f243:=Tryz.func96.trans (congrArg some (by kernel_rfl))
 f246:=Tryz.func118.trans (congrArg some (by kernel_rfl))
 f283:=Tryz.func133.trans (congrArg some (by kernel_rfl))
 f284:=Tryz.func134.trans (congrArg some (by kernel_rfl))
 f285:=Tryz.func135.trans (congrArg some (by kernel_rfl))
 f286:=Tryz.func136.trans (congrArg some (by kernel_rfl))
 f317:=Tryz.func151.trans (congrArg some (by kernel_rfl))
 f318:=Tryz.func152.trans (congrArg some (by kernel_rfl))
 f319:=Tryz.func153.trans (congrArg some (by kernel_rfl))
 f320:=Tryz.func154.trans (congrArg some (by kernel_rfl))
 f337:=Tryz.func159.trans (congrArg some (by kernel_rfl))
 f338:=Tryz.func160.trans (congrArg some (by kernel_rfl))
 t0:=Tryz.underlying0
 a0:=Tryz.isAgg0
 z0:=Tryz.sizeOf0
 v0:=Tryz.zeroValue0
 t2:=Tryz.underlying2
 a2:=Tryz.isAgg2
 z2:=Tryz.sizeOf2
 v2:=Tryz.zeroValue2
 t3:=Tryz.underlying3
 a3:=Tryz.isAgg3
 z3:=Tryz.sizeOf3
 v3:=Tryz.zeroValue3
 t4:=Tryz.underlying4
 a4:=Tryz.isAgg4
 z4:=Tryz.sizeOf4
 v4:=Tryz.zeroValue4
 t5:=Tryz.underlying5
 a5:=Tryz.isAgg5
 z5:=Tryz.sizeOf5
 v5:=Tryz.zeroValue5
 t9:=Tryz.underlying9
 a9:=Tryz.isAgg9
 z9:=Tryz.sizeOf9
 v9:=Tryz.zeroValue9
 t20:=Tryz.underlying20
 a20:=Tryz.isAgg20
 z20:=Tryz.sizeOf20
 v20:=Tryz.zeroValue20
 t37:=Tryz.underlying95
 a37:=Tryz.isAgg95
 z37:=Tryz.sizeOf95
 v37:=Tryz.zeroValue95
 t46:=Tryz.underlying136
 a46:=Tryz.isAgg136
 z46:=Tryz.sizeOf136
 v46:=Tryz.zeroValue136
 t51:=Tryz.underlying158
 a51:=Tryz.isAgg158
 z51:=Tryz.sizeOf158
 v51:=Tryz.zeroValue158
 t53:=Tryz.underlying160
 a53:=Tryz.isAgg160
 z53:=Tryz.sizeOf160
 v53:=Tryz.zeroValue160
 t171:=Tryz.underlying164
 a171:=Tryz.isAgg164
 z171:=Tryz.sizeOf164
 v171:=Tryz.zeroValue164
 t173:=Tryz.underlying166
 a173:=Tryz.isAgg166
 z173:=Tryz.sizeOf166
 v173:=Tryz.zeroValue166
 t212:=Tryz.underlying180
 a212:=Tryz.isAgg180
 z212:=Tryz.sizeOf180
 v212:=Tryz.zeroValue180
 t213:=Tryz.underlying181
 a213:=Tryz.isAgg181
 z213:=Tryz.sizeOf181
 t232:=Tryz.underlying188
 a232:=Tryz.isAgg188
 z232:=Tryz.sizeOf188
 v232:=Tryz.zeroValue188
 t233:=Tryz.underlying189
 a233:=Tryz.isAgg189
 z233:=Tryz.sizeOf189
 v233:=Tryz.zeroValue189
 g17:=by kernel_rfl
 g18:=by kernel_rfl
 g19:=by kernel_rfl
 i0:=by kernel_rfl
 i2:=by kernel_rfl
 i3:=by kernel_rfl
 i4:=by kernel_rfl
 i5:=by kernel_rfl
 i9:=by kernel_rfl
 i20:=by kernel_rfl
 i37:=by kernel_rfl
 i46:=by kernel_rfl
 i51:=by kernel_rfl
 i53:=by kernel_rfl
 i171:=by kernel_rfl
 i173:=by kernel_rfl
 i212:=by kernel_rfl
 i232:=by kernel_rfl
 i233:=by kernel_rfl
 m17:=by kernel_rfl
 m18:=by kernel_rfl
 m19:=by kernel_rfl }
def Tryz.lays166_ren:Go.Shelf.Ren:=⟨fun|166=>59|240=>95|276=>117|n=>n,fun|0=>0|3=>3|4=>4|9=>9|20=>20|37=>95|70=>94|72=>97|75=>99|80=>103|164=>147|5=>5|n=>n,fun|n=>n⟩
theorem Tryz.lays166:Go.Proofs.Lays.n166 Tryz.prog Tryz.lays166_ren:={
 mixed:=by kernel_rfl
 f166:=Tryz.func59.trans (congrArg some (by kernel_rfl))
 f240:=Tryz.func95.trans (congrArg some (by kernel_rfl))
 f276:=Tryz.func117.trans (congrArg some (by kernel_rfl))
 t0:=Tryz.underlying0
 a0:=Tryz.isAgg0
 z0:=Tryz.sizeOf0
 v0:=Tryz.zeroValue0
 t3:=Tryz.underlying3
 a3:=Tryz.isAgg3
 z3:=Tryz.sizeOf3
 v3:=Tryz.zeroValue3
 t4:=Tryz.underlying4
 a4:=Tryz.isAgg4
 z4:=Tryz.sizeOf4
 v4:=Tryz.zeroValue4
 t9:=Tryz.underlying9
 a9:=Tryz.isAgg9
 z9:=Tryz.sizeOf9
 v9:=Tryz.zeroValue9
 t20:=Tryz.underlying20
 a20:=Tryz.isAgg20
 z20:=Tryz.sizeOf20
 v20:=Tryz.zeroValue20
 t37:=Tryz.underlying95
 a37:=Tryz.isAgg95
 z37:=Tryz.sizeOf95
 v37:=Tryz.zeroValue95
 t70:=Tryz.underlying94
 a70:=Tryz.isAgg94
 z70:=Tryz.sizeOf94
 v70:=Tryz.zeroValue94
 t72:=Tryz.underlying97
 a72:=Tryz.isAgg97
 z72:=Tryz.sizeOf97
 v72:=Tryz.zeroValue97
 t75:=Tryz.underlying99
 a75:=Tryz.isAgg99
 z75:=Tryz.sizeOf99
 v75:=Tryz.zeroValue99
 t164:=Tryz.underlying147
 a164:=Tryz.isAgg147
 z164:=Tryz.sizeOf147
 v164:=Tryz.zeroValue147 }
theorem Tryz.Builder_Extra_166:Builder.Extra Tryz.prog Tryz.lays166_ren where
 sizeBuilder:=by kernel_rfl
 liesBuilder:=by kernel_rfl
 t5:=Tryz.underlying5
 a5:=Tryz.isAgg5
 z5:=Tryz.sizeOf5
 v5:=Tryz.zeroValue5
 infoByte:=by kernel_rfl
 cellsByte:=by kernel_rfl
 sizeByte:=by kernel_rfl
 neB5:=by decide
theorem Tryz.Builder_Extra_169:Builder.Extra Tryz.prog Tryz.lays169_ren where
 sizeBuilder:=by kernel_rfl
 liesBuilder:=by kernel_rfl
 t5:=Tryz.underlying5
 a5:=Tryz.isAgg5
 z5:=Tryz.sizeOf5
 v5:=Tryz.zeroValue5
 infoByte:=by kernel_rfl
 cellsByte:=by kernel_rfl
 sizeByte:=by kernel_rfl
 neB5:=by decide
end
end Go.Proofs
namespace Go.Proofs.YtlgmojhmmbhgfaaGreatDoor
section
open Go.RowKit
section
variable {P:Program} {ops:Array Oper} {hp:List HObj} {o:Oper} {fr:List Dat} {d:Dat} {Q:ZAL} {rest:List Oper}
variable {dst:Option Tmp} {ty:TypeId} {ps:String} {af:Array Edge} {g:Option (Nat × Bool)}
variable {t e:TypeId} {n bytes:Nat} {z:Value} {ag:Bool}
theorem Zh {α:Type} {R:Rel α} {_gR:Good R} {x:Operand} {xs:List Operand} {a:α} {els:List α} (h:OpD fr x (dS R a)) (k:ElsD fr R xs els):ElsD fr R (x::xs) (a::els):=ElsD.cons h k
theorem Zq {α:Type} {R:Rel α} {_gR:Good R}:ElsD fr R [] ([]:List α):=ElsD.nil
theorem ZKe {x y:Operand} (E:ElT P t e n z bytes ag) {α:Type} {R:Rel α} {_gR:Good R} {xs:List α} {j:Int} (hx:OpD fr x (dS (ArrK n R) xs)) (hy:OpD fr y (dI j)) (l:Nat) (hj:j=(l:Int)) (h1:l≤xs.length) :
  SY P ops hp ⟨dst,.slice t x (some y) none none,ty,ps,af,g⟩ fr (dS (ArrK n R) (xs.drop l)):=by
 have:=ZMs (P:=P) (ops:=ops) (hp:=hp) (dst:=dst) (ty:=ty) (ps:=ps) (af:=af) (g:=g) (_gR:=_gR) E hx (ZMf hy hj) ZR2 h1 (Nat.le_refl _)
 rwa [List.take_of_length_le (by simp)] at this
theorem SY.fullE (E:ElT P t e n z bytes ag) {α:Type} {R:Rel α} {_gR:Good R} {len:Nat} {parts:Array (Nat × Operand)} {els:List α} (hx:ElsD fr R (parts.toList.map Prod.snd) els) (hparts:parts.toList=((parts.toList.map Prod.snd).zipIdx).map (fun p=>(p.2,p.1))) (hl:len=els.length) (hn:0<n) (hs:∀ a,(dS R a).Shape n true) (hsm:els.length*n≤16777216) :
  SY P ops hp ⟨dst,.buildSlice t len parts,ty,ps,af,g⟩ fr (ZIv n R els):=SY.fullK E hparts hx hl hn hs hsm
theorem SY.buildE (E:ElT P t e n z bytes ag) {α:Type} {R:Rel α} {_gR:Good R} {len:Nat} {parts:Array (Nat × Operand)} {els:List α} (hx:ElsD fr R (parts.toList.map Prod.snd) els) (hparts:parts.toList=((parts.toList.map Prod.snd).zipIdx).map (fun p=>(p.2,p.1))) (hl:len=els.length) (hn:0<n) (hs:∀ a,(dS R a).Shape n true) (hsm:els.length*n≤16777216) :
  SY P ops hp ⟨dst,.buildSlice t len parts,ty,ps,af,g⟩ fr (dS (ArrK n R) els):=SY.buildK E hx hparts hl hn hs hsm
end

end
section
open Go.RowKit
def ZAf (P:Program) (f:FuncId):Prop:=∀ (args:Array Value) (w:World),(callFunc f args).run P w = .ok (.enter f args) w
def ZJm (P:Program) {α:Type} (A:α->List Dat) (r:α->Dat):Dat where
 rd:=fun I w v=>∃ f cap,v = .func (.func f) #[] cap/\ZAf P f/\∀ w',(∀ k,I k->k<w.heap.size->w'.heap[k]?=w.heap[k]?)->∀ (x:α) (I':Nat->Prop) (vs:List Value),vs.length=(A x).length->(∀ (i:Nat) (d:Dat),(A x)[i]?=some d->d.rd I' w' (vs.getD i undef)) ->
  Calls P f (vs.toArray++cap) w' fun e w''=>∃ u,e = .returned u/\Ext w' w''/\(r x).rd (fun b=>I' b\/w'.heap.size≤b) w'' u
 weak:=fun ⟨f,cap,h1,h0,h2⟩ q=>⟨f,cap,h1,h0,fun w' hw'=>h2 w' fun k hk=>hw' k (q k hk)⟩
 move:=fun {P w w2 v} ⟨f,cap,h1,h0,h2⟩ q=>⟨f,cap,h1,h0,fun w' hw'=>h2 w' fun k hk hlt=>by
  have h3:=q k hk hlt
  have hlt2:k<w2.heap.size:=by
   have:(w2.heap[k]?).isSome=true:=by rw [h3];simp [hlt]
   exact (Array.getElem?_eq_some_iff.1 (Option.isSome_iff_exists.1 this).choose_spec).1
  exact (hw' k hk hlt2).trans h3⟩
 bound:=fun ⟨f,cap,h1,h0,h2⟩=>⟨f,cap,h1,h0,fun w' hw'=>h2 w' fun k hk hlt=>hw' k ⟨hk,hlt⟩ hlt⟩
section
variable {P:Program} {ops:Array Oper} {hp:List HObj} {o:Oper} {fr:List Dat} {d:Dat} {dst:Option Tmp} {ty:TypeId} {ps:String} {af:Array Edge} {g:Option (Nat × Bool)}
theorem ZGO {f:FuncId} {α:Type} {A:α->List Dat} {r:α->Dat} (he:ZAf P f) (h:∀ x,Fn P f (A x) (r x)):(dX (.func (.func f) #[] #[])).le (ZJm P A r):=fun I w v hv=>by
 cases (hv:_=_)
 refine ⟨f,#[],rfl,he,fun w' _ x I' vs hl hr=>?_⟩
 have:=(h x).out I' w' vs hl hr
 simpa using this
theorem ZD0 {t:Tmp} {args:Array Operand} {ats:Array TypeId} {α:Type} {A:α->List Dat} {r:α->Dat} {x:α} (ht:OpD fr (.tmp t) (ZJm P A r)) (ha:ArgsD fr args.toList (A x)) :
  SY P ops hp ⟨dst,.call { callee:=.value (.tmp t),args:=args,argTypes:=ats },ty,ps,af,g⟩ fr (r x):=SY.mk fun {P0 B w0 w a} hh ho K Q hk=>by
 obtain ⟨f,cap,h1,h0,h2⟩:=ht.get (by simp [Op.operands,Call.operands]) ho
 have h3:=h2 w (fun _ _ _=>rfl) x (Imm P0 B hp) (args.toList.map a.eval) (by simpa using ha.1) fun i d hd=>by
  have hi:i<args.toList.length:=by rw [ha.1];exact (List.getElem?_eq_some_iff.1 hd).1
  have h2:=ha.2 i _ d (List.getElem?_eq_getElem hi) hd
  have:=h2.get (by simp only [Op.operands,Call.operands];simp) ho
  have hi':i<args.size:=by simpa using hi
  simpa [List.getD,hi'] using this
 have he:(args.toList.map a.eval).toArray=args.map a.eval:=by apply Array.ext';simp
 rw [he] at h3
 unfold Oper.wp
 have h4:=h0 (args.map a.eval++cap) w
 have:(execOp a.eval ⟨dst,.call { callee:=.value (.tmp t),args:=args,argTypes:=ats },ty,ps,af,g⟩).run P w = .ok (.enter f (args.map a.eval++cap)) w:=by
  unfold execOp
  simp only [resolve]
  simp [h1,Deferred.ofValue,invoke,h4]
 rw [this]
 exact h3.mono fun e w' ⟨v,he,e1,hd⟩=>by subst he;exact hk v w' e1 ((r x).weak hd fun k hk=>hk.elim id hh.fresh)
theorem ZEw {f:FuncId} {caps:Array Operand} {cs:List Dat} {α:Type} {A:α->List Dat} {r:α->Dat} (he:ZAf P f) (h:∀ x,Fn P f (A x++cs) (r x)) (hr:∀ x,(r x).Bare) (ha:ArgsD fr caps.toList cs) :
  SY P ops hp ⟨dst,.makeFunc (.func f) #[] caps,ty,ps,af,g⟩ fr (ZJm P A r):=SY.val fun {I w a} ho=>by
 refine ⟨.func (.func f) #[] (caps.map a.eval),by unfold execOp;simp [Instr.makeFunc],f,_,rfl,he,fun w' hw' x I' vs hl hv=>?_⟩
 have hcap:∀ (i:Nat) (d:Dat),cs[i]?=some d->d.rd I w' ((caps.toList.map a.eval).getD i undef):=fun i d hd=>by
  have hi:i<caps.toList.length:=by rw [ha.1];exact (List.getElem?_eq_some_iff.1 hd).1
  have h2:=ha.2 i _ d (List.getElem?_eq_getElem hi) hd
  have:=h2.get (by simp only [Op.operands];simp) ho
  have hi':i<caps.size:=by simpa using hi
  have:=d.move this hw'
  simpa [List.getD,hi'] using this
 have:=(h x).out (fun b=>I' b\/I b) w' (vs++caps.toList.map a.eval) (by have:=ha.1;simp at this;simp [hl,this]) fun i d hd=>by
  by_cases hi:i<(A x).length
  ·rw [List.getElem?_append_left hi] at hd
   have:=hv i d hd
   have hi2:i<vs.length:=by omega
   rw [List.getD_eq_getElem?_getD,List.getElem?_append_left hi2,<- List.getD_eq_getElem?_getD]
   exact d.weak this fun _=>.inl
  ·rw [List.getElem?_append_right (by omega)] at hd
   have:=hcap _ d hd
   rw [List.getD_eq_getElem?_getD,List.getElem?_append_right (by omega),<- List.getD_eq_getElem?_getD,hl]
   exact d.weak this fun _=>.inr
 have he:(vs++caps.toList.map a.eval).toArray=vs.toArray++caps.map a.eval:=by apply Array.ext';simp
 rw [he] at this
 exact this.mono fun e w'' ⟨u,h1,h2,h3⟩=>⟨u,h1,h2,hr x _ _ _ _ _ h3⟩
theorem ZKO {α:Type} {A:α->List Dat} {r:α->Dat}:(ZJm P A r).Shape 1 false:=ZBr fun _ _ _ h=>by obtain ⟨f,c,rfl,_⟩:=h;rfl
end
end
section
open Go.RowKit
def hFr (a:Act) (fr:List Dat):HObj where
 blk:=none
 ok:=fun I w=>∀ (t:Nat) (d:Dat),fr[t]?=some d->d.rd I w (a.tmps.getD t undef)
 weak:=fun h q t d hd=>d.weak (h t d hd) q
 bound:=fun h t d hd=>d.bound (h t d hd)
 move:=fun h hg hP _ t d hd=>d.grown (h t d hd) hg hP
section
variable {P:Program} {ops:Array Oper} {hp:List HObj} {o:Oper} {fr:List Dat} {d:Dat} {Q:ZAL} {rest:List Oper}
variable {dst:Option Tmp} {ty:TypeId} {ps:String} {af:Array Edge} {g:Option (Nat × Bool)} {P0:Nat->Prop} {B:Nat} {w0 w:World}
theorem Zx {gh:HObj} (hg:gh.blk=none) (l:List HObj) (k:Nat):Imm P0 B (l++gh::hp) k↔Imm P0 B (l++hp) k:=by
 unfold Imm
 refine and_congr Iff.rfl ⟨fun h o ho=>h o ?_,fun h o ho=>?_⟩
 ·rcases List.mem_append.1 ho with ho|ho
  ·exact List.mem_append_left _ ho
  ·exact List.mem_append_right _ (List.mem_cons_of_mem _ ho)
 ·rcases List.mem_append.1 ho with ho|ho
  ·exact h o (List.mem_append_left _ ho)
  ·rcases List.mem_cons.1 ho with rfl|ho
   ·rw [hg];simp
   ·exact h o (List.mem_append_right _ ho)
theorem ZBB {gh:HObj} (hg:gh.blk=none) {l:List HObj} (h:Hp P0 B w0 (l++hp) w) (hok:gh.ok (Imm P0 B (l++hp)) w):Hp P0 B w0 (l++gh::hp) w where
 base:=h.base
 below:=h.below
 own:=fun o ho k hk=>by
  rcases List.mem_append.1 ho with ho|ho
  ·exact h.own o (List.mem_append_left _ ho) k hk
  ·rcases List.mem_cons.1 ho with rfl|ho
   ·rw [hg] at hk;cases hk
   ·exact h.own o (List.mem_append_right _ ho) k hk
 ok:=fun o ho=>by
  rcases List.mem_append.1 ho with ho|ho
  ·exact o.weak (h.ok o (List.mem_append_left _ ho)) fun k=>(Zx hg l k).2
  ·rcases List.mem_cons.1 ho with rfl|ho
   ·exact o.weak hok fun k=>(Zx hg l k).2
   ·exact o.weak (h.ok o (List.mem_append_right _ ho)) fun k=>(Zx hg l k).2
 apart:=by
  have h1:=h.apart
  rw [List.pairwise_append] at h1 ⊢
  refine ⟨h1.1,List.pairwise_cons.2 ⟨fun q _ k hk=>(by rw [hg] at hk;cases hk),h1.2.1⟩,fun o ho q hq k hk=>?_⟩
  rcases List.mem_cons.1 hq with rfl|hq
  ·rw [hg];simp
  ·exact h1.2.2 o ho q hq k hk
theorem Hp.unghost {gh:HObj} (hg:gh.blk=none) {l:List HObj} (h:Hp P0 B w0 (l++gh::hp) w):Hp P0 B w0 (l++hp) w/\gh.ok (Imm P0 B (l++hp)) w:=by
 have hm:∀ o,o∈l++hp->o∈l++gh::hp:=fun o ho=>by
  rcases List.mem_append.1 ho with ho|ho
  ·exact List.mem_append_left _ ho
  ·exact List.mem_append_right _ (List.mem_cons_of_mem _ ho)
 refine ⟨⟨h.base,h.below,fun o ho=>h.own o (hm o ho),fun o ho=>o.weak (h.ok o (hm o ho)) fun k=>(Zx hg l k).1,?_⟩,gh.weak (h.ok gh (by simp)) fun k=>(Zx hg l k).1⟩
 have h1:=h.apart
 rw [List.pairwise_append] at h1 ⊢
 exact ⟨h1.1,(List.pairwise_cons.1 h1.2.1).2,fun o ho q hq=>h1.2.2 o ho q (List.mem_cons_of_mem _ hq)⟩
def finI (t:Nat) (K:Dat->List HObj->Prop) (gh:HObj) (hp:List HObj):ZAL:=fun e f q=>(match e with|.normal|.ret=>True|_=>False)/\∃ d hp2,f[t]?=some d/\q=hp2++gh::hp/\K d hp2
theorem ZFw {f:FuncId} {fn:Func} {c:Code} {t:Tmp} {args:Array Operand} {ats:Array TypeId} {ds:List Dat} (hp1:List HObj) (K:Dat->List HObj->Prop) (hf:P.funcs[f]?=some fn) (hb:fn.body=some c) (hr:fn.results=#[.tmp t]) (he:ZAf P f) (ha:ArgsD fr args.toList ds)
  (hbody:∀ gh:HObj,gh.blk=none->WC P (finI t K gh hp) c (ds++List.replicate (fn.ntmps-ds.length) (dX undef)) (hp1++gh::hp))
  (hK:∀ d' hp2,K d' hp2->WL P ops Q rest (ZB fr dst d') (hp2++hp)) :
  WL P ops Q (⟨dst,.call { callee:=.value (.func f),args:=args,argTypes:=ats },ty,ps,af,none⟩::rest) fr (hp1++hp):=by
 refine WL.of fun P0 B w0 w a hh hfr=>?_
 have hrun:(execOp a.eval ⟨dst,.call { callee:=.value (.func f),args:=args,argTypes:=ats },ty,ps,af,none⟩).run P w = .ok (.enter f (args.map a.eval)) w:=by
  unfold execOp
  simp only [resolve]
  simp [Act.eval,Deferred.ofValue,invoke,he _ w]
 refine wpList_plain rfl fun KK hKK=>?_
 unfold Oper.wp
 rw [hrun]
 have hgb:(hFr a fr).blk=none:=rfl
 have hG:Hp P0 B w0 (hp1++hFr a fr::hp) w:=ZBB hgb hh hfr.rd
 have hvs:(args.map a.eval)=(args.toList.map a.eval).toArray:=by apply Array.ext';simp
 have hl:(args.toList.map a.eval).length=ds.length:=by simpa using ha.1
 have hf0:Fr (Imm P0 B (hp1++hFr a fr::hp)) w { tmps:=(args.toList.map a.eval).toArray++Array.replicate (fn.ntmps-ds.length) undef,defers:=[] } (ds++List.replicate (fn.ntmps-ds.length) (dX undef)) :=
  ZA8 hl fun i d hd=>by
   have hi:i<args.toList.length:=by rw [ha.1];exact (List.getElem?_eq_some_iff.1 hd).1
   have h2:=(ha.2 i _ d (List.getElem?_eq_getElem hi) hd).ev hfr
   have hi':i<args.size:=by simpa using hi
   have:(args.toList.map a.eval).getD i undef=a.eval args.toList[i]:=by simp [List.getD,hi']
   rw [this]
   exact d.weak h2 fun k=>(Zx hgb hp1 k).2
 have hcalls:Calls P f (args.map a.eval) w fun e w'=>∃ v,e = .returned v/\KK (a.put dst v) w':=by
  rw [hvs]
  refine calls_of_wp hf hb ?_
  have hwp:=(hbody (hFr a fr) hgb).on hG hf0
  have hsz:(args.toList.map a.eval).toArray.size=ds.length:=by simp [<- hl]
  rw [hsz]
  refine Code.wp_mono (fun e a' w' ⟨f',p',q,hh',hf'⟩=>?_) hwp
  obtain ⟨hx,d',hp2,hd',rfl,hk'⟩:=q
  obtain ⟨hh2,hok2⟩:=hh'.unghost hgb
  have hv:=d'.weak (hf'.rd t d' hd') fun k=>(Zx hgb hp2 k).1
  have hfr2:Fr (Imm P0 B (hp2++hp)) w' a fr:=⟨hfr.defers,hfr.size,hok2⟩
  have hfin:=hKK _ _ ((hK d' hp2 hk').on hh2 (Fr.put (x:=dst) hfr2 hv))
  cases e with
  | normal=>exact ⟨hf'.defers,_,results_tmp hr _ _ _,_,rfl,hfin⟩
  | ret=>exact ⟨hf'.defers,_,results_tmp hr _ _ _,_,rfl,hfin⟩
  | _=>exact hx.elim
 exact hcalls.mono fun e w' ⟨v,hv,hk⟩=>by subst hv;exact hk
end
end
end Go.Proofs.YtlgmojhmmbhgfaaGreatDoor
