/- Part 15: walks by contracts, and plain laws. -/
import Derived.Deep.OwnRows
import Derived.Test.YtlgmojhmmbhgfaaGreatDoorVg14
set_option linter.unusedVariables false
set_option linter.unusedSimpArgs false
set_option linter.unusedSectionVars false
set_option maxRecDepth 100000
set_option maxHeartbeats 4000000
namespace Go.Proofs.YtlgmojhmmbhgfaaGreatDoor
section
open Go.RowKit
structure SG (P:Program) (ops:Array Oper) (hp:List HObj) {β:Type} (H:β->List HObj) (D:β->Dat) (o:Oper) (fr:List Dat):Prop where
 want:WantS ops o fr true
 out:∀ {P0:Nat->Prop} {B:Nat} {w0 w:World} {a:Act},Hp P0 B w0 hp w->On (o.looksAt ops) (Imm P0 B hp) w a fr->∀ (K:Act->World->Prop) (Q:Exit->Act->World->Prop),
  (∀ (x:β) (v:Value) (w':World),Hp P0 B w0 (H x) w'->(∀ (d:Dat) (u:Value),d.rd (Imm P0 B hp) w u->d.rd (Imm P0 B (H x)) w' u)->(D x).rd (Imm P0 B (H x)) w' v->K (a.put o.dst v) w')->o.wp P a w K Q
section
variable {P:Program} {ops:Array Oper} {hp:List HObj} {md:Region.Mode} {β:Type} {H:β->List HObj} {D:β->Dat} {dd:Nat->Dat} {m:Nat} {fr fr':List Dat} {o:Oper}
theorem SG.same (h:SG P ops hp H D o fr) (hl:fr'.length=fr.length) (hs:∀ t∈o.looksAt ops,fr'[t]?=fr[t]?):SG P ops hp H D o fr':=⟨⟨fun I w a ho=>h.want.out I w a (ho.same hl hs)⟩,fun hh ho K Q hk=>h.out hh (ho.same hl hs) K Q hk⟩
def sOpG (P:Program) (ops:Array Oper) (hp:List HObj) {β:Type} (H:β->List HObj) (D:β->Dat) (dd:Nat->Dat) (m:Nat) (i:Nat) (K:List Dat->Option β->Prop) (fr:List Dat) (c:Option β):Prop :=
 ∃ o,ops[i]?=some o/\((i=m/\c=none/\SG P ops hp H D o fr/\∀ x,K (ZB fr o.dst (D x)) (some x))\/(i≠m/\(∀ c,SYG P ops (HH hp H c) o fr (dd i))/\K (ZB fr o.dst (dd i)) c))
def ZGc (P:Program) (md:Region.Mode) (ops:Array Oper) (hp:List HObj) {β:Type} (H:β->List HObj) (D:β->Dat) (dd:Nat->Dat) (m n:Nat) (L:Array Bool->List Dat->Option β->Prop):Nat->Array Bool->List Dat->Option β->Prop
 | 0,listed,fr,c=>L listed fr c
 | f+1,listed,fr,c =>
  Region.ready md ops listed≠[]/\∀ i∈Region.ready md ops listed,i<n/\sOpG P ops hp H D dd m i (ZGc P md ops hp H D dd m n L f (listed.setIfInBounds i true)) fr c
theorem ZCW {n g:Nat} {L:Array Bool->List Dat->Option β->Prop} {Q':Exit->Act->World->Prop} {P0:Nat->Prop} {B:Nat} {w0:World}:∀ (f:Nat) (listed:Array Bool) (fr:List Dat) (c:Option β) (a:Act) (w:World),Hp P0 B w0 (HH hp H c) w->Fr (Imm P0 B (HH hp H c)) w a fr ->
  (∀ listed fr c a w',Hp P0 B w0 (HH hp H c) w'->Fr (Imm P0 B (HH hp H c)) w' a fr->L listed fr c->wpAny P md ops Q' g listed a w')->ZGc P md ops hp H D dd m n L f listed fr c->wpAny P md ops Q' (f+g) listed a w
 | 0,listed,fr,c,a,w,hh,hf,hL,h=>by rw [Nat.zero_add];exact hL _ _ _ _ _ hh hf h
 | f+1,listed,fr,c,a,w,hh,hf,hL,h=>by
  rw [show f+1+g=(f+g)+1 by omega]
  refine ⟨fun h0=>absurd h0 h.1,fun i hi=>?_⟩
  obtain ⟨o,ho,h1⟩:=(h.2 i hi).2
  unfold wpOp
  simp only [ho]
  rcases h1 with ⟨hm,hc,hw,hk⟩|⟨hm,hs,hk⟩
  ·subst hc
   have hwant:Region.wanted o (yielded ops a.tmps)=true:=hw.want.out _ _ _ (hf.on _)
   rw [if_pos hwant]
   refine .inl (hw.out hh (hf.on _) _ _ fun x v w' hh' hrd hd=>?_)
   exact ZCW f _ _ (some x) _ _ hh' (Fr.put (hf.mono fun d u hu=>hrd d u hu) hd) hL (hk x)
  ·have:=(hs c).step (Q:=Q') hh hf (K:=wpAny P md ops Q' (f+g) (listed.setIfInBounds i true)) fun a' w' e hf'=>ZCW f _ _ c _ _ (hh.ext e) hf' hL hk
   split
   ·rename_i hw;rw [if_pos hw] at this;exact .inl this
   ·rename_i hw;rw [if_neg hw] at this;exact this
theorem ZJi {n i:Nat} {oi:Oper} {L:Array Bool->List Dat->Option β->Prop} (hi:ops[i]?=some oi) (him:i≠m)
  (hs:Region.sinkB md ops n=true) (hc:Region.chainB md ops n=true) (hn:n<ops.size) (hin:i<n)
  (hdone:∀ listed a c,L listed a c->∀ j∈Region.ready md ops listed,n≤j) :
  ∀ (f:Nat) (listed:Array Bool) (fr:List Dat) (c:Option β),HeadInv md ops n listed ->
   (∀ j oj,ops[j]?=some oj->j≠i->listed.getD j true=false->(∀ e∈oj.after,Region.binds md e=true->e.on≠i)->oi.apart ops oj=true) ->
   i∈Region.ready md ops listed->(∀ c,SYG P ops (HH hp H c) oi fr (dd i)) ->
   ZGc P md ops hp H D dd m n L f (listed.setIfInBounds i true) (ZB fr oi.dst (dd i)) c->ZGc P md ops hp H D dd m n L (f+1) listed fr c:=by
 intro f
 induction f with
 | zero =>
  intro listed fr c inv _ hr hy H
  have hun:=(mem_ready.1 hr).1
  refine ⟨fun h=>(by rw [h] at hr;cases hr),fun j hj=>?_⟩
  have hjn:j<n:=by
   rcases Nat.lt_or_ge j n with h|h
   ·exact h
   ·exact absurd hj (tail_waits hs hc hn inv _ i rfl hin hun j h)
  refine ⟨hjn,?_⟩
  by_cases hji:j=i
  ·subst hji;exact ⟨oi,hi,.inr ⟨him,hy,H⟩⟩
  ·have:=hdone _ _ _ H j (ready_mono hj hji)
   omega
 | succ f ih =>
  intro listed fr c inv hfree hr hy H
  have hun:=(mem_ready.1 hr).1
  refine ⟨fun h=>(by rw [h] at hr;cases hr),fun j hj=>?_⟩
  have hjn:j<n:=by
   rcases Nat.lt_or_ge j n with h|h
   ·exact h
   ·exact absurd hj (tail_waits hs hc hn inv _ i rfl hin hun j h)
  refine ⟨hjn,?_⟩
  by_cases hji:j=i
  ·subst hji;exact ⟨oi,hi,.inr ⟨him,hy,H⟩⟩
  ·obtain ⟨oj',hoj',h1⟩:=(H.2 j (ready_mono hj hji)).2
   obtain ⟨hjun,oj,hoj,hall⟩:=mem_ready.1 hj
   have hoo:oj=oj':=by rw [hoj] at hoj';simpa using hoj'
   subst hoo
   have hnot:∀ e∈oj.after,Region.binds md e=true->e.on≠i:=fun e he hb heq=>by
    have h1:=hall e he hb
    rw [heq,getD_both hun] at h1
    cases h1
   obtain ⟨a1,a2,a3⟩:=Oper.apart_spec (hfree j oj hoj hji hjun hnot)
   have hfree':∀ k ok,ops[k]?=some ok->k≠i->(listed.setIfInBounds j true).getD k true=false ->
     (∀ e∈ok.after,Region.binds md e=true->e.on≠i)->oi.apart ops ok=true:=fun k ok hk hki hun hno=>by
    refine hfree k ok hk hki ?_ hno
    by_cases hjk:j=k
    ·subst hjk;exact hjun
    ·rw [getD_set_ne true hjk] at hun;exact hun
   have key:∀ (d:Dat) (c':Option β),ZGc P md ops hp _ D dd m n L f ((listed.setIfInBounds i true).setIfInBounds j true) (ZB (ZB fr oi.dst (dd i)) oj.dst d) c' ->
     ZGc P md ops hp _ D dd m n L (f+1) (listed.setIfInBounds j true) (ZB fr oj.dst d) c':=fun d c' hk=>by
    refine ih (listed.setIfInBounds j true) (ZB fr oj.dst d) c' (inv.set hj hjn) hfree' (ready_mono hr (Ne.symm hji)) (fun c=>(hy c).same (ZAK _ _ _) fun t ht=>ZAY fun e=>a3 t e ht) ?_
    rw [Array.setIfInBounds_comm _ _ hji,<- ZDQ fr (dd i) d a2]
    exact hk
   refine ⟨oj,hoj,?_⟩
   rcases h1 with ⟨hm,hcn,hw,hk⟩|⟨hm,hs',hk⟩
   ·exact .inl ⟨hm,hcn,hw.same (ZAK _ _ _).symm fun t ht=>(ZAY fun e=>a1 t e ht).symm,fun x=>key _ _ (hk x)⟩
   ·exact .inr ⟨hm,fun c=>(hs' c).same (ZAK _ _ _).symm fun t ht=>(ZAY fun e=>a1 t e ht).symm,key _ _ hk⟩
theorem ZHI {n g:Nat} {Lq:List Dat->Option β->Prop} {ow:Oper} (how:ops[m]?=some ow) (hs:Region.sinkB md ops (m+1)=true) (hc:Region.chainB md ops (m+1)=true) (hn:m+1<ops.size) :
  ∀ (l:List Oper) (k:Nat) (listed:Array Bool) (fr:List Dat),(∀ j,j<l.length->l[j]?=ops[k+j]?)->k+l.length=m->HeadInv md ops (m+1) listed->(∀ j,j<k->listed.getD j true=true) ->
  Region.lexHead md ops g (l.length+1) k listed=true->ChD P ops hp H dd (fun fr=>SG P ops hp H D ow fr/\∀ x,Lq (ZB fr ow.dst (D x)) (some x)) l k fr ->
  ZGc P md ops hp H D dd m (m+1) (fun listed' a' c'=>Region.seqB md ops g (m+1) listed'=true/\Lq a' c') (l.length+1) listed fr none
 | [],k,listed,fr,hl,hk,inv,hbefore,hB,h=>by
  have hkm:k=m:=by simpa using hk
  subst hkm
  simp only [List.length_nil,Region.lexHead,Bool.and_eq_true] at hB
  obtain ⟨⟨hr,hf⟩,hB'⟩:=hB
  have hr':k∈Region.ready md ops listed:=by simpa using hr
  have hun:=(mem_ready.1 hr').1
  refine ⟨fun h0=>(by rw [h0] at hr';cases hr'),fun i hi=>?_⟩
  have hile:i<k+1:=by
   rcases Nat.lt_or_ge i (k+1) with h1|h1
   ·exact h1
   ·exact absurd hi (tail_waits hs hc hn inv _ k rfl (by omega) hun i h1)
  have hik:i=k:=by
   rcases Nat.lt_or_ge i k with h1|h1
   ·have h2:=(mem_ready.1 hi).1
    rw [hbefore i h1] at h2
    cases h2
   ·omega
  subst hik
  exact ⟨by omega,ow,how,.inl ⟨rfl,rfl,h.1,fun x=>⟨hB',h.2 x⟩⟩⟩
 | o::l,k,listed,fr,hl,hk,inv,hbefore,hB,h=>by
  have h0:ops[k]?=some o:=by simpa using (hl 0 (by simp)).symm
  simp only [List.length_cons] at hB
  rw [Region.lexHead] at hB
  simp only [Bool.and_eq_true] at hB
  obtain ⟨⟨hr,hf⟩,hB'⟩:=hB
  have hkn:k<m:=by simp only [List.length_cons] at hk;omega
  have hr':k∈Region.ready md ops listed:=by simpa using hr
  have hklt:k<listed.size:=by rw [inv.size];omega
  exact ZJi h0 (by omega) hs hc hn (by omega) (fun listed' a' c' hL=>seqB_ready hL.1) (l.length+1) listed fr none inv (Region.free_spec h0 hf) hr' h.1
   (ZHI (n:=n) how hs hc hn l (k+1) _ _ (fun j hj=>by have:=hl (j+1) (by simp;omega);simpa [Nat.add_assoc,Nat.add_comm 1 j] using this) (by simp only [List.length_cons] at hk;omega) (inv.set hr' (by omega))
    (fun j hj=>by
     by_cases hjk:k=j
     ·subst hjk;simp [hklt]
     ·rw [getD_set_ne true hjk];exact hbefore j (by omega)) hB' h.2)
theorem WC.drawG {id:Nat} {l:List Oper} {Q:ZAL} (n:Nat) (H:β->List HObj) (D:β->Dat) (ow:Oper) (how:l[n]?=some ow) (hm:P.follows .mixedOrders=true) (hB:Region.lexTailB .any l.toArray (n+1)=true)
  (h:WDs P l.toArray hp H (fun f=>SG P l.toArray hp H D ow f/\∀ x,WL P l.toArray Q (l.drop (n+1)) (ZB f ow.dst (D x)) (H x)) (l.take n) fr):WC P Q (.region id l.toArray true) fr hp:=by
 refine WC.of fun P0 B w0 w a hh hf=>?_
 simp only [Region.lexTailB,Bool.and_eq_true,decide_eq_true_eq] at hB
 obtain ⟨⟨⟨⟨hsel,hn⟩,hs⟩,hc⟩,hlex⟩:=hB
 have hn':n+1<l.length:=by simpa using hn
 have htl:(l.take n).length=n:=by simp;omega
 have hdl:(l.drop (n+1)).length=l.toArray.size-(n+1):=by simp
 have inv0:HeadInv .any l.toArray (n+1) (Array.replicate l.toArray.size false) :=
  ⟨by simp,fun j oj _ hl=>(by rw [getD_replicate_false] at hl;cases hl),fun t _ ht=>getD_in (by simpa using ht) (getD_replicate_false _ _)⟩
 obtain ⟨dd,hch⟩:=h.ch (l.take n) 0 fr
 have HW:=ZHI (n:=n) (Lq:=fun f c=>WL P l.toArray Q (l.drop (n+1)) f (HH hp H c)) (md:=.any) (g:=l.toArray.size-(n+1)) (ow:=ow) (m:=n) (by simpa using how) hs hc hn (l.take n) 0 _ fr (fun j hj=>by
  have hj':j<n:=by rw [htl] at hj;exact hj
  simp [hj']) (by simpa using htl) inv0 (fun j hj=>by omega) (by rw [htl];exact hlex) hch
 have hx:Ext w { w with drawn:=w.drawn+1 }:=(Ext.refl w).drew
 refine wp_region_any hm ?_
 have:=ZCW (Q':=ZCE Q P0 B w0) (g:=l.toArray.size-(n+1)) _ _ _ none _ _ (hh.ext hx) (hf.ext hx) (fun listed fr' c a' w' hh' hf' hL=>by
  have:=wpAny_of_seq (md:=.any) (Q':=ZCE Q P0 B w0) (l.drop (n+1)) (n+1) listed a' w' (fun j=>by simp [List.getElem?_drop]) (by rw [hdl];exact hL.1) (hL.2.on hh' hf')
  rwa [hdl] at this) HW
 rw [htl,show n+1+(l.toArray.size-(n+1))=l.toArray.size by omega] at this
 exact this
end
section
variable {P:Program} {ops:Array Oper} {hp:List HObj} {fr:List Dat} {dst:Option Tmp} {ty:TypeId} {ps:String} {af:Array Edge} {t e:TypeId} {z:Value} {bytes:Nat} {ag:Bool} {gd:Option (Nat × Bool)}
abbrev ZR3 {α:Type} (v:Value) (xs:List α):Type:={p:Nat × Nat // v = .slice (some ⟨p.1,0,none⟩) xs.length p.2/\xs.length+1≤p.2} ⊕ Value
abbrev ZQZ {α:Type} (R:Rel α) [Good R] (e:TypeId) (v:Value) (xs:List α) (y:α) (hp:List HObj):ZR3 v xs->List HObj
 | .inl p=>hQ p.1.1 (xs.length+1) p.1.2 e R (xs++[y])::hp
 | .inr v'=>ZW v' e R (xs++[y])::ZW v e R xs::hp
abbrev ZQY {α:Type} {v:Value} {xs:List α}:ZR3 v xs->Dat
 | .inl p=>dX (.slice (some ⟨p.1.1,0,none⟩) (xs.length+1) p.1.2)
 | .inr v'=>dX v'
theorem ZJp {s y:Operand} (E:ElT P t e 1 z bytes ag) {α:Type} {R:Rel α} {_gR:Good R} {v:Value} {xs:List α} {y0:α}
  (hw:WantS ops ⟨dst,.call { callee:=.builtin .append,args:=#[s,y],argTypes:=#[t,t] },ty,ps,af,gd⟩ fr true)
  (hs:OpD fr s (dX v)) (hy:OpD fr y (dS (Arr R) [y0])) (hby:0<bytes) (hlen:(xs.length+1)*bytes≤140737488355328) :
  SG P ops (ZW v e R xs::hp) (ZQZ R e v xs y0 hp) (ZQY (v:=v) (xs:=xs)) ⟨dst,.call { callee:=.builtin .append,args:=#[s,y],argTypes:=#[t,t] },ty,ps,af,gd⟩ fr:=⟨hw,fun {P0 B w0 w a} hh ho K Q hk=>by
 obtain ⟨ad,cap0,hv0,c1,c2,c3⟩:=(hy.get (by simp [Op.operands,Call.operands]) ho:Arr R _ _ _ _)
 obtain ⟨yv,yb,yoff,hyr,hone,had,hyb,hyc⟩:=c3 0 (by simp)
 simp only [List.getElem_cons_zero] at hyr
 subst had
 have hse:a.eval s=v:=hs.get (by simp [Op.operands,Call.operands]) ho
 have hm:xs.length+1≤maxLen:=by
  have:(xs.length+1)*1≤(xs.length+1)*bytes:=Nat.mul_le_mul_left _ hby
  simp only [maxLen];omega
 have hcell:∀ j u,[yv][j]?=some u->w.cell? ((⟨yb,yoff,none⟩:Addr).add j)=some u:=fun j u hu=>by
  have hj:j=0:=by have:=(List.getElem?_eq_some_iff.1 hu).1;simpa using this
  subst hj
  cases hu
  rw [Addr.add_lit]
  exact hyc
 have hones:∀ u∈[yv],u.oneCell'=true:=fun u hu=>by rw [List.mem_singleton.1 hu];exact hone
 have hrun:∀ (v':Value) (w':World),(Builtin.append_ #[t,t] ty #[v,.slice (some ⟨yb,yoff,none⟩) 1 cap0]).run P w = .ok v' w'->(execOp a.eval ⟨dst,.call { callee:=.builtin .append,args:=#[s,y],argTypes:=#[t,t] },ty,ps,af,gd⟩).run P w = .ok (.value v') w':=fun v' w' hr=>by
  have hv1:a.eval y = .slice (some ⟨yb,yoff,none⟩) 1 cap0:=hv0
  unfold execOp
  simp only [resolve,invoke,builtin,List.map_toArray,List.map_cons,List.map_nil,hse,hv1,Sem.run_bind,Sem.run_pure,Result.andThen_ok,hr]
 obtain ⟨i0,hi,hz,hsz,hbt⟩:=info_parts E.info
 obtain ⟨us,u1,⟨u2,u3⟩,u4⟩:=(ZW v e R xs).bound (hh.ok (ZW v e R xs) (by simp))
 rcases u3 with ⟨hv,hz0⟩|⟨g,cap,cur,hv,hB,hg,hc1,hc2,hc3,hc4⟩
 ·have hx0:xs=[]:=by
   apply List.eq_nil_of_length_eq_zero
   omega
  subst hx0
  obtain ⟨v',w',hr,r1,r2,r3⟩:=ZBp (ty:=ty) E hh (ad:=⟨yb,yoff,none⟩) (c:=cap0) (ys:=[y0]) (news:=[yv]) rfl hcell hones (fun j h1 h2=>by
    have hj:j=0:=by simp at h1;omega
    subst hj
    exact hyr) (by simpa using hlen) (by simpa using hm)
  unfold Oper.wp
  rw [hrun _ _ hr]
  subst hv
  have h2:Hp P0 B w0 (ZW (.slice none 0 0) e R []::ZW v' e R ([]++[y0])::hp) w':=r1.push (Ext.refl _) (by simp [ZW,Value.ownBlock]) Own.nil
  obtain ⟨h3,hI⟩:=h2.perm (List.Perm.swap _ _ _)
  refine hk (.inr v') v' w' h3 (fun d u hd=>?_) rfl
  have h4:=Zf (o:=ZW (.slice none 0 0) e R []) (hp:=ZW v' e R ([]++[y0])::hp) (Ext.refl w') (by simp [ZW,Value.ownBlock]) (ZM (o:=ZW (.slice none 0 0) e R []) (o':=ZW v' e R ([]++[y0])) r2 r3 hd)
  exact d.weak h4 fun k hk=>(hI k).1 hk
 ·subst hv
  rw [Nat.mul_one] at hc3 hc4
  have hlu:us.length=xs.length:=u1
  have hcl:xs.length≤cur.toList.length:=by simp;omega
  have hold:∀ j u,us[j]?=some u->w.cell? ((⟨g,0,none⟩:Addr).add j)=some u:=fun j u hj=>by
   have hlt:=(List.getElem?_eq_some_iff.1 hj).1
   rw [<- hc4,List.getElem?_take,if_pos (by omega)] at hj
   rw [Addr.add_lit,Nat.zero_add]
   simp only [World.cell?,hg]
   simpa using hj
  by_cases hroom:xs.length+1≤cap
  ·have hin:xs.length<cur.size:=by omega
   have hr:=run_append_room_cells (P:=P) w t ty e i0 E.und hi g 0 xs.length cap ⟨yb,yoff,none⟩ 1 cap0 [yv] (by simp [hsz]) hcell hones hroom (fun j hj=>by
    have hj0:j=0:=by simp at hj;omega
    subst hj0
    rw [hsz]
    simp [World.cell?,hg,hin]) (fun j hj=>by simp [World.frozen?,hg])
   rw [hsz,Nat.zero_add,Nat.mul_one] at hr
   unfold Oper.wp
   rw [hrun _ _ hr]
   have hgr:w.grownBy (w.setCells g xs.length [yv]) (some g):=ZCj
   have hsplit:cur=(cur.toList.take xs.length++(cur.toList.drop xs.length).take 1++cur.toList.drop (xs.length+1)).toArray:=by
    apply Array.ext'
    show cur.toList=_
    rw [List.append_assoc,<- List.drop_drop,List.take_append_drop,List.take_append_drop]
   have hg2:(w.setCells g xs.length [yv]).heap[g]?=some (.cells (cur.toList.take xs.length++[yv]++cur.toList.drop (xs.length+1)).toArray e (0,0)):=by
    have:=ZAX (g:=g) (e:=e) (fz:=(0,0)) [yv] ((cur.toList.drop xs.length).take 1) (cur.toList.take xs.length) (cur.toList.drop (xs.length+1)) w (by simp;omega) (by rw [<- hsplit];exact hg)
    rwa [List.length_take,Nat.min_eq_left hcl] at this
   have hmv:∀ (u:Value) (q:α),R (fun j=>(Imm P0 B (ZW (.slice (some ⟨g,0,none⟩) xs.length cap) e R xs::hp) j/\j<w.heap.size)/\j≠g) w u q->R (fun j=>(Imm P0 B (ZW (.slice (some ⟨g,0,none⟩) xs.length cap) e R xs::hp) j/\j<w.heap.size)/\(Value.slice (some ⟨g,0,none⟩) (xs.length+1) cap).ownBlock≠some j) (w.setCells g xs.length [yv]) u q:=fun u q hq =>
    Good.weak (Good.move hq fun j hj hlt=>hgr.block j hlt fun he=>hj.2 (by cases he;rfl)) fun j hj=>⟨hj.1,fun he=>hj.2 (by cases he;rfl)⟩
   have hok:(hQ g (xs.length+1) cap e R (xs++[y0])).ok (fun j=>Imm P0 B (ZW (.slice (some ⟨g,0,none⟩) xs.length cap) e R xs::hp) j/\j<w.heap.size) (w.setCells g xs.length [yv]):=by
    have hl2:(us++[yv]).length=(xs++[y0]).length:=by rw [List.length_append,List.length_append,hlu];rfl
    refine ⟨us++[yv],hl2,⟨by rw [hl2,Nat.mul_one],.inr ⟨g,cap,_,by rw [List.length_append];rfl,Nat.zero_le _,hg2,by rw [List.length_append];exact hroom,hc2,?_,?_⟩⟩,fun j h1 h2=>?_⟩
    ·rw [List.size_toArray]
     simp only [List.length_append,List.length_take,List.length_drop,List.length_singleton,Array.length_toList]
     omega
    ·rw [Nat.mul_one,hc4,List.length_append,List.length_singleton,<- hlu]
     show ((us++[yv])++_).take _=_
     rw [List.take_left' (by simp)]
    ·by_cases hj:j<us.length
     ·rw [List.getElem_append_left hj,List.getElem_append_left (by omega)]
      obtain ⟨q1,q2⟩:=u4 j hj (by omega)
      exact ⟨q1,hmv _ _ (Good.weak q2 fun b hb=>⟨hb.1,fun he=>hb.2 (by rw [he];rfl)⟩)⟩
     ·have hj2:j=us.length:=by simp at h1;omega
      subst hj2
      rw [List.getElem_append_right (Nat.le_refl _),List.getElem_append_right (by omega)]
      simp only [Nat.sub_self,hlu,List.getElem_cons_zero]
      exact ⟨hone,hmv _ _ (Good.weak (Good.bound hyr) fun b hb=>⟨hb,fun he=>hb.1.2 (ZW (.slice (some ⟨g,0,none⟩) xs.length cap) e R xs) (by simp) (by rw [he];rfl)⟩)⟩
   exact hk (.inl ⟨(g,cap),rfl,hroom⟩) _ _ (hh.write hgr (.inl rfl) hok) (fun d u hd=>ZM (o:=ZW (.slice (some ⟨g,0,none⟩) xs.length cap) e R xs) (o':=hQ g (xs.length+1) cap e R (xs++[y0])) hgr (.inl rfl) hd) rfl
  ·obtain ⟨v',w',hr,r1,r2⟩:=run_append_arg_grows (P:=P) w t ty e i0 z 1 bytes E.und hi hz hsz hbt E.zs Nat.one_pos ⟨g,0,none⟩ xs.length cap us (by omega) hold ⟨yb,yoff,none⟩ 1 cap0 [yv] rfl hcell (by omega) hm hlen
   unfold Oper.wp
   rw [hrun _ _ hr]
   have hx2:Ext w w':=⟨r2.os,r2.tape,r2.output,r2.size,fun k hk=>r2.block k hk (by simp)⟩
   have hob:∀ k,(ZW v' e R (xs++[y0])).blk=some k->w.heap.size≤k/\k<w'.heap.size:=fun k hk=>r1.lt k hk
   have hok:(ZW v' e R (xs++[y0])).ok (fun k=>Imm P0 B (ZW (.slice (some ⟨g,0,none⟩) xs.length cap) e R xs::hp) k/\k<w.heap.size) w':=by
    have hl2:(xs++[y0]).length=xs.length+1:=by simp
    have hbk:∀ b,v'.ownBlock=some b->w.heap.size≤b:=fun b hb=>(hob b hb).1
    obtain ⟨q1,q2⟩:=r1
    refine ⟨us++[yv],by simp [hlu],⟨by rw [hl2];exact q1,?_⟩,fun j h1 h2=>?_⟩
    ·rw [hl2]
     rcases q2 with ⟨z1,z2⟩|⟨g',c',cur',z1,_,z3⟩
     ·exact .inl ⟨z1,z2⟩
     ·exact .inr ⟨g',c',cur',z1,Nat.zero_le _,z3⟩
    ·by_cases hj:j<us.length
     ·rw [List.getElem_append_left hj,List.getElem_append_left (by omega)]
      obtain ⟨p1,p2⟩:=u4 j hj (by omega)
      exact ⟨p1,Good.ext (R:=R) (Good.weak p2 fun b hb=>⟨hb.1,fun he=>Nat.lt_irrefl _ (Nat.lt_of_lt_of_le hb.1.2 (hbk b he))⟩) hx2⟩
     ·have hj2:j=us.length:=by simp at h1;omega
      subst hj2
      rw [List.getElem_append_right (Nat.le_refl _),List.getElem_append_right (by omega)]
      simp only [Nat.sub_self,hlu,List.getElem_cons_zero]
      exact ⟨hone,Good.ext (R:=R) (Good.weak (Good.bound hyr) fun b hb=>⟨hb,fun he=>Nat.lt_irrefl _ (Nat.lt_of_lt_of_le hb.2 (hbk b he))⟩) hx2⟩
   exact hk (.inr v') v' w' (hh.push hx2 hob hok) (fun d u hd=>Zf (o:=ZW v' e R (xs++[y0])) hx2 (fun k hk=>(hob k hk).1) hd) rfl⟩
end
end
section
theorem ZD1 {a:Nat} (h:a<9223372036854775808):(BitVec.ofInt 64 (a:Int)).toNat=a:=by
 rw [BitVec.ofInt_natCast,BitVec.toNat_ofNat]
 exact Nat.mod_eq_of_lt (by omega)
theorem ZEr {a:Nat} (h:a<9223372036854775808):IntKind.i64.wrap (a:Int)=(a:Int):=ZEA (by omega)
theorem ZEZ {a b:Nat} (ha:a<9223372036854775808) (hb:b<9223372036854775808):ZKE (a:Int) (b:Int)=((a &&& b:Nat):Int):=by
 unfold ZKE
 rw [BitVec.toNat_and,ZD1 ha,ZD1 hb]
 exact ZEr (Nat.lt_of_le_of_lt Nat.and_le_left ha)
theorem or_lt {a b:Nat} (ha:a<9223372036854775808) (hb:b<9223372036854775808):a ||| b<9223372036854775808 :=
 Nat.or_lt_two_pow (n:=63) ha hb
theorem ZHs {a b:Nat} (ha:a<9223372036854775808) (hb:b<9223372036854775808):ior (a:Int) (b:Int)=((a ||| b:Nat):Int):=by
 unfold ior
 rw [BitVec.toNat_or,ZD1 ha,ZD1 hb]
 exact ZEr (or_lt ha hb)
theorem ZNP (x y:BitVec 64):x &&& ~~~ y=x ^^^ (x &&& y):=by
 apply BitVec.eq_of_getLsbD_eq
 intro i hi
 simp only [BitVec.getLsbD_and,BitVec.getLsbD_not,BitVec.getLsbD_xor]
 cases x.getLsbD i <;> cases y.getLsbD i <;> simp [hi]
theorem ZJE {a b:Nat} (ha:a<9223372036854775808) (hb:b<9223372036854775808):ZCS (a:Int) (b:Int)=((a ^^^ (a &&& b):Nat):Int):=by
 unfold ZCS
 rw [ZNP,BitVec.toNat_xor,BitVec.toNat_and,ZD1 ha,ZD1 hb]
 exact ZEr (Nat.xor_lt_two_pow (n:=63) ha (Nat.lt_of_le_of_lt Nat.and_le_left ha))
theorem ZRI {a k:Nat} (hk:k≤64):ishr (a:Int) (k:Int)=((a >>> k:Nat):Int):=by
 unfold ishr
 rw [Int.toNat_natCast,Nat.min_eq_left hk,Nat.shiftRight_eq_div_pow]
 have:(2:Int) ^ k=((2 ^ k:Nat):Int):=by rw [Int.natCast_pow];rfl
 rw [this]
 exact Int.ofNat_fdiv a (2 ^ k) |>.symm
theorem ZOQ {n all rest b:Nat} (h1:all ||| rest=2 ^ n-1) (h2:all &&& rest=0) (hb:b<2 ^ n):b &&& rest=b↔all &&& b=0:=by
 have key:∀ i,(all.testBit i || rest.testBit i)=decide (i<n):=fun i=>by rw [<- Nat.testBit_or,h1,Nat.testBit_two_pow_sub_one]
 have dis:∀ i,(all.testBit i && rest.testBit i)=false:=fun i=>by rw [<- Nat.testBit_and,h2,Nat.zero_testBit]
 constructor
 ·intro h
  apply Nat.eq_of_testBit_eq
  intro i
  have e:=congrArg (fun x=>x.testBit i) h
  simp only [Nat.testBit_and] at e
  rw [Nat.testBit_and,Nat.zero_testBit]
  have d:=dis i
  cases ha:all.testBit i <;> cases hr:rest.testBit i <;> cases hbi:b.testBit i <;> simp_all
 ·intro h
  apply Nat.eq_of_testBit_eq
  intro i
  have e:=congrArg (fun x=>x.testBit i) h
  simp only [Nat.testBit_and,Nat.zero_testBit] at e
  rw [Nat.testBit_and]
  have k:=key i
  by_cases hi:i<n
  ·rw [decide_eq_true hi] at k
   cases ha:all.testBit i <;> cases hr:rest.testBit i <;> cases hbi:b.testBit i <;> simp_all
  ·have:b.testBit i=false:=Nat.testBit_lt_two_pow (Nat.lt_of_lt_of_le hb (Nat.pow_le_pow_right (by decide) (by omega)))
   rw [this];rfl
end
section
open Go.RowKit
section
variable {P:Program} {ops:Array Oper} {hp:List HObj} {fr:List Dat} {dst:Option Tmp} {ty:TypeId} {ps:String} {af:Array Edge} {g:Option (Nat × Bool)} {T T2:TypeId} {x y:Operand} {a b:Nat}
theorem ZKh (ha:a<9223372036854775808) (hb:b<9223372036854775808) (hx:OpD fr x (dI (a:Int))) (hy:OpD fr y (dI (b:Int))):SY P ops hp ⟨dst,.binOp .or T x y T2,ty,ps,af,g⟩ fr (dI ((a ||| b:Nat):Int)):=by
 have h:=SY.or (P:=P) (ops:=ops) (hp:=hp) (dst:=dst) (ty:=ty) (ps:=ps) (af:=af) (g:=g) (T:=T) (T2:=T2) hx hy
 rwa [ZHs ha hb] at h
theorem ZR5 (ha:a<9223372036854775808) (hb:b<9223372036854775808) (hx:OpD fr x (dI (a:Int))) (hy:OpD fr y (dI (b:Int))):SY P ops hp ⟨dst,.binOp .and T x y T2,ty,ps,af,g⟩ fr (dI ((a &&& b:Nat):Int)):=by
 have h:=SY.and (P:=P) (ops:=ops) (hp:=hp) (dst:=dst) (ty:=ty) (ps:=ps) (af:=af) (g:=g) (T:=T) (T2:=T2) hx hy
 rwa [ZEZ ha hb] at h
theorem ZCP (hb:b≤64) (hx:OpD fr x (dI (a:Int))) (hy:OpD fr y (dI (b:Int))):SY P ops hp ⟨dst,.binOp .shr T x y T2,ty,ps,af,g⟩ fr (dI ((a >>> b:Nat):Int)):=by
 have h:=SY.shr (P:=P) (ops:=ops) (hp:=hp) (dst:=dst) (ty:=ty) (ps:=ps) (af:=af) (g:=g) (T:=T) (T2:=T2) hx hy (by omega)
 rwa [ZRI hb] at h
theorem ZCO {m i:Nat} (hm:m<9223372036854775808) (hx:OpD fr x (dI ((m >>> i:Nat):Int))):SY P ops hp ⟨dst,.binOp .and T x (.const (.int .i64 1)) T2,ty,ps,af,g⟩ fr (dI (((m >>> i) &&& 1:Nat):Int)) :=
 ZR5 (a:=m >>> i) (b:=1) (Nat.lt_of_le_of_lt (by rw [Nat.shiftRight_eq_div_pow];exact Nat.div_le_self _ _) hm) (by decide) hx OpD.i
end
def Zv (bl:List Nat):List Int:=bl.map fun b:Nat=>(b:Int)
theorem ZBA (bl:List Nat):(Zv bl).length=bl.length:=by simp [Zv]
theorem ZN8 {bl:List Nat} {k:Nat} (h:k<bl.length) (h':k<(Zv bl).length):(Zv bl)[k]=(bl[k]:Int):=by simp [Zv]
theorem ZE2 (bl:List Nat) (b:Nat):Zv (bl++[b])=Zv bl++[(b:Int)]:=by simp [Zv]
section
variable {P:Program} {ops:Array Oper} {hp:List HObj} {fr:List Dat} {dst:Option Tmp} {ty:TypeId} {ps:String} {af:Array Edge} {g:Option (Nat × Bool)} {x i:Operand} {t e:TypeId} {z:Value} {bytes:Nat}
theorem ZKf (E:ElT P t e 1 z bytes false) {bl:List Nat} {k:Nat} (hx:OpD fr x (dS ZBt (Zv bl))) (hi:OpD fr i (dI (k:Int))) (hk:k<bl.length):SY P ops hp ⟨dst,.indexAddr t x i,ty,ps,af,g⟩ fr (dP 1 false (dI ((bl[k]:Nat):Int))):=by
 have h:=ZAw (R:=RI) (_gR:=inferInstance) (P:=P) (ops:=ops) (hp:=hp) (dst:=dst) (ty:=ty) (ps:=ps) (af:=af) (g:=g) E hx hi (by rw [ZBA];exact hk)
 rwa [ZN8 hk] at h
end
def ZGV (n:Nat) (f:Nat->Nat):List Int:=(List.range n).map fun k=>((f k:Nat):Int)
theorem ZEl (n:Nat) (f:Nat->Nat):(ZGV n f).length=n:=by simp [ZGV]
theorem ZH7 {n:Nat} {f:Nat->Nat} {k:Nat} (h:k<(ZGV n f).length):(ZGV n f)[k]=((f k:Nat):Int):=by simp [ZGV]
theorem ZE8 {n:Nat} {f g:Nat->Nat} (h:∀ k,k<n->f k=g k):ZGV n f=ZGV n g:=by
 unfold ZGV
 exact List.map_congr_left fun k hk=>by rw [h k (List.mem_range.1 hk)]
theorem ZO1 (n:Nat):ZGV n (fun _=>0)=List.replicate n (0:Int):=by
 unfold ZGV
 apply List.ext_getElem (by simp)
 intro i h1 h2
 simp
theorem ZRE {n:Nat} {f:Nat->Nat} {i c:Nat}:(ZGV n f).set i (c:Int)=ZGV n fun k=>if k=i then c else f k:=by
 apply List.ext_getElem (by simp [ZGV])
 intro k h1 h2
 rw [List.getElem_set,ZH7 h2]
 by_cases hk:i=k
 ·rw [if_pos hk,if_pos hk.symm]
 ·rw [if_neg hk,if_neg fun q=>hk q.symm,ZH7]
end
section
open Go.RowKit
section
variable {P:Program} {ops:Array Oper} {hp:List HObj} {fr:List Dat} {Q:ZAL} {rest:List Oper} {c:Code} {d:Dat} {α:Type} {R:Rel α} {e:TypeId}
theorem ZTM {_gR:Good R} {v:Value} {xs:List α} (h:WC P Q c fr (ZAC v (dS (Arr R) xs)::hp)):WC P Q c fr (ZW v e R xs::hp):=WC.of fun P0 B w0 w a hh hf=>by
 have hg:(ZAC v (dS (Arr R) xs)).blk=none:=rfl
 have hd:(dS (Arr R) xs).rd (Imm P0 B hp) w v:=ZBz hh
 exact h.on (ZBB (l:=[]) hg hh.drop hd) (hf.mono fun d u hd=>d.weak hd fun k hk=>(Zx hg [] k).2 (Imm.sub k hk))
theorem WL.use {v:Value} (t:Nat) (ht:fr[t]?=some (dX v)) (hm:ZAC v d∈hp) (h:WL P ops Q rest (fr.set t d) hp):WL P ops Q rest fr hp:=WL.of fun P0 B w0 w a hh hf=>by
 refine h.on hh ⟨hf.defers,by rw [hf.size,List.length_set],fun t' d' hd'=>?_⟩
 by_cases htt:t=t'
 ·subst htt
  rw [List.getElem?_set] at hd'
  simp only [if_true] at hd'
  split at hd'
  ·cases hd'
   have h1:a.tmps.getD t undef=v:=hf.rd t _ ht
   rw [h1]
   exact hh.ok _ hm
  ·cases hd'
 ·rw [List.getElem?_set_ne htt] at hd'
  exact hf.rd t' d' hd'
structure CapH (hp:List HObj) (v:Value) (d:Dat):Prop where
 out:∀ {P0:Nat->Prop} {B:Nat} {w0 w:World},Hp P0 B w0 hp w->d.rd anyB w v
theorem CapH.map {K V:Type} {kv:K->Value} {vv:V->Value} {R:Rel V} [Good R] {M:List (K × V)} {b m:Nat} {T:TypeId} (h1:ZQ b T 1 false (dX (.map (some m)))∈hp) (h2:hM m kv vv M∈hp) (hvv:∀ I w (y:V),R I w (vv y) y) :
  CapH hp (.pointer (some ⟨b,0,none⟩)) (dP 1 false (dS (ZKc kv R) M)):=CapH.mk fun {P0 B w0 w} hh=>by
 obtain ⟨cs,u,c1,c2,c0,c3,c4,c5⟩:=hh.ok _ h1
 have hu:u = .map (some m):=c5
 have hb:w.heap[m]?=some (ZAM _):=hh.ok _ h2
 refine ⟨b,0,u,rfl,ZAi c1 c2 c0 c3 c4 trivial,m,M.map fun p=>vv p.2,hu,trivial,by simp,?_,fun k q1 q2=>?_⟩
 ·rw [hb]
  congr 2
  unfold ZAR
  rw [List.zip_map',List.map_map]
  rfl
 ·simp only [List.getElem_map]
  exact hvv _ _ _
end
end
section
open Go.RowKit
theorem ZOO (z:Value) (n:Nat):(madeCells #[z] n).toList=List.replicate n z:=by
 unfold madeCells
 apply List.ext_getElem (by simp)
 intro i h1 h2
 simp [Nat.mod_one]
section
variable {P:Program} {ops:Array Oper} {hp:List HObj} {fr:List Dat} {d:Dat} {Q:ZAL} {rest:List Oper}
variable {dst:Option Tmp} {ty:TypeId} {ps:String} {af:Array Edge} {bytes:Nat} {e t:TypeId}
theorem ZPn {n:Nat} {j:Int} {y y':Operand} (E:ElT P t e 1 (.int .i64 0) bytes false) (hy:OpD fr y (dI j)) (hy':OpD fr y' (dI j)) (hj:j=(n:Int)) (hb:bytes*n≤281474976710656) (hm:n≤1000000000) (h:∀ v,WL P ops Q rest (ZB fr dst (dX v)) (ZW v e RI (List.replicate n (0:Int))::hp)) :
  WL P ops Q (⟨dst,.makeSlice t y y',ty,ps,af,none⟩::rest) fr hp:=by
 refine WL.of fun P0 B w0 w a hh hf=>?_
 have h1:a.eval y = .int .i64 n:=by rw [<- hj];exact hy.ev hf
 have h2:a.eval y' = .int .i64 n:=by rw [<- hj];exact hy'.ev hf
 have hr:=run_make_row' (P:=P) t e (.int .i64 0) bytes E.und E.info rfl .i64 .i64 n hb (by omega) w
 refine Zl rfl (v:=.slice (some ⟨w.heap.size,0,none⟩) n n) (w':=w.alloc (.cells (madeCells #[.int .i64 0] n) e)) ?_ ?_
 ·unfold execOp
  simp only [h1,h2,Sem.run_bind,hr,Result.andThen_ok,Sem.run_pure]
 have hx:=Ext.of_alloc w (.cells (madeCells #[.int .i64 0] n) e)
 have hb':∀ q,(ZW (.slice (some ⟨w.heap.size,0,none⟩) n n) e RI (List.replicate n (0:Int))).blk=some q->w.heap.size≤q/\q<(w.alloc (.cells (madeCells #[.int .i64 0] n) e)).heap.size:=fun q hq=>by
  cases hq
  exact ⟨Nat.le_refl _,by simp⟩
 refine (h _).on (hh.push hx hb' ?_) (Fr.put (hf.mono fun d _ hd=>Zf hx (fun k hk=>(hb' k hk).1) hd) rfl)
 refine ⟨List.replicate n (.int .i64 0),by simp,⟨by simp,.inr ⟨w.heap.size,n,madeCells #[.int .i64 0] n,by simp,Nat.zero_le _,Zk w _,by simp,by simp only [maxLen];omega,by simp [size_madeCells],?_⟩⟩,fun k a b=>?_⟩
 ·rw [ZOO,List.length_replicate,Nat.mul_one,List.take_of_length_le (by simp)]
 ·simp only [List.getElem_replicate]
  exact ⟨rfl,rfl⟩
end
end
end Go.Proofs.YtlgmojhmmbhgfaaGreatDoor
