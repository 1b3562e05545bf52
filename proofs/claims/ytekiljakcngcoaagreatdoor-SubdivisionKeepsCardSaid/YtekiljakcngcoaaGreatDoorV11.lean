/- Part 11: walks by contracts, and plain laws. -/
import Derived.Test.YtekiljakcngcoaaGreatDoorV8
set_option linter.unusedVariables false
set_option linter.unusedSimpArgs false
set_option linter.unusedSectionVars false
set_option maxRecDepth 100000
set_option maxHeartbeats 4000000
namespace Go.Proofs.YtekiljakcngcoaaGreatDoor.M
section
open Go.RowKit
structure Ext (w w':World):Prop where
 b:Go.Proofs.YtekiljakcngcoaaGreatDoor.Ext w w'
 d:w.drawn≤w'.drawn
theorem Ext.refl (w:World):Ext w w:=⟨Go.Proofs.YtekiljakcngcoaaGreatDoor.Ext.refl w,Nat.le_refl _⟩
theorem Ext.trans {a b c:World} (h:Ext a b) (k:Ext b c):Ext a c:=⟨h.b.trans k.b,Nat.le_trans h.d k.d⟩
theorem Ext.drew {a w:World} (h:Ext a w):Ext a w.drew:=⟨h.b.drew,Nat.le_trans h.d (Nat.le_succ _)⟩
theorem Ext.of_alloc (w:World) (o:Obj):Ext w (w.alloc o):=⟨Go.Proofs.YtekiljakcngcoaaGreatDoor.Ext.of_alloc w o,Nat.le_refl _⟩
theorem Ext.size {w w':World} (h:Ext w w'):w.heap.size≤w'.heap.size:=h.b.size
theorem Dat.ext {d:Dat} {P:Nat->Prop} {w w':World} {v:Value} (h:d.rd P w v) (e:Ext w w'):d.rd P w' v:=Go.Proofs.YtekiljakcngcoaaGreatDoor.Dat.ext h e.b
structure Hp (P0:Nat->Prop) (B:Nat) (w0:World) (hp:List HObj) (w:World):Prop where
 h:Go.Proofs.YtekiljakcngcoaaGreatDoor.Hp P0 B w0 hp w
 d:w0.drawn≤w.drawn
section
variable {P0:Nat->Prop} {B:Nat} {w0 w w':World} {hp:List HObj}
theorem Hp.le (h:Hp P0 B w0 hp w):B≤w.heap.size:=h.h.le
theorem Hp.ext (h:Hp P0 B w0 hp w) (e:Ext w w'):Hp P0 B w0 hp w':=⟨h.h.ext e.b,Nat.le_trans h.d e.d⟩
theorem Hp.fresh (h:Hp P0 B w0 hp w) {b:Nat} (hb:w.heap.size≤b):Imm P0 B hp b:=h.h.fresh hb
theorem hp_enter {I:Nat->Prop} {w:World}:Hp (fun b=>I b/\b<w.heap.size) w.heap.size w [] w:=⟨Go.Proofs.YtekiljakcngcoaaGreatDoor.hp_enter,Nat.le_refl _⟩
end
open Go.RowKit


structure SY (P:Program) (ops:Array Oper) (hp:List HObj) (o:Oper) (fr:List Dat) (d:Dat):Prop where
 out:∀ {P0:Nat->Prop} {B:Nat} {w0 w:World} {a:Act},Hp P0 B w0 hp w->On (o.looksAt ops) (Imm P0 B hp) w a fr->∀ (K:Act->World->Prop) (Q:Exit->Act->World->Prop),
  (∀ v w',Ext w w'->d.rd (Imm P0 B hp) w' v->K (a.put o.dst v) w')->o.wp P a w K Q
def SYG (P:Program) (ops:Array Oper) (hp:List HObj) (o:Oper) (fr:List Dat) (d:Dat):Prop:=(WantS ops o fr true/\SY P ops hp o fr d)\/(WantS ops o fr false/\d=dX undef)

section
variable {P:Program} {ops:Array Oper} {hp:List HObj} {o:Oper} {fr fr':List Dat} {d:Dat}
theorem SYG.same (h:SYG P ops hp o fr d) (hl:fr'.length=fr.length) (hs:∀ t∈o.looksAt ops,fr'[t]?=fr[t]?):SYG P ops hp o fr' d:=by
 rcases h with ⟨h1,h2⟩|⟨h1,h2⟩
 ·exact .inl ⟨⟨fun I w a ho=>h1.out I w a (ho.same hl hs)⟩,⟨fun hh ho K Q hk=>h2.out hh (ho.same hl hs) K Q hk⟩⟩
 ·exact .inr ⟨⟨fun I w a ho=>h1.out I w a (ho.same hl hs)⟩,h2⟩

def sOp (P:Program) (ops:Array Oper) (hp:List HObj) (i:Nat) (K:List Dat->Prop) (fr:List Dat):Prop :=
 match ops[i]? with
 | none=>K fr
 | some o=>∃ d,SYG P ops hp o fr d/\K (ZA fr o.dst d)
theorem ZF0 {i:Nat} {K K':List Dat->Prop} (h:∀ f,K f->K' f) (hh:sOp P ops hp i K fr):sOp P ops hp i K' fr:=by
 unfold sOp at *
 split
 ·rename_i ho;simp only [ho] at hh;exact h _ hh
 ·rename_i o ho;simp only [ho] at hh;obtain ⟨d,h1,h2⟩:=hh;exact ⟨d,h1,h _ h2⟩
def ZDQ (P:Program) (md:Region.Mode) (ops:Array Oper) (hp:List HObj) (Q:List Dat->Prop):Nat->Array Bool->List Dat->Prop
 | 0,listed,fr=>Region.ready md ops listed=[]/\Q fr
 | fuel+1,listed,fr=>(Region.ready md ops listed=[]->Q fr)/\∀ i∈Region.ready md ops listed,sOp P ops hp i (ZDQ P md ops hp Q fuel (listed.setIfInBounds i true)) fr

theorem SYG.step {P0:Nat->Prop} {B:Nat} {w0 w:World} {a:Act} (h:SYG P ops hp o fr d) (hh:Hp P0 B w0 hp w) (hf:Fr (Imm P0 B hp) w a fr) {K:Act->World->Prop} {Q:Exit->Act->World->Prop}
  (hk:∀ a' w',Ext w w'->Fr (Imm P0 B hp) w' a' (ZA fr o.dst d)->K a' w'):if Region.wanted o (yielded ops a.tmps) then o.wp P a w K Q else K (a.put o.dst undef) w:=by
 rcases h with ⟨h1,h2⟩|⟨h1,rfl⟩
 ·rw [if_pos (h1.out _ _ _ (hf.on _))]
  exact h2.out hh (hf.on _) K Q fun v w' e hd=>hk _ _ e ((hf.ext e.b).put hd)
 ·rw [if_neg (by rw [h1.out _ _ _ (hf.on _)];exact Bool.false_ne_true)]
  exact hk _ _ (Ext.refl _) (hf.put rfl)

theorem ZBi {md:Region.Mode} {P0:Nat->Prop} {B:Nat} {w0:World} {Q:List Dat->Prop} {Q':Exit->Act->World->Prop}:∀ (fuel:Nat) (listed:Array Bool) (fr:List Dat) (a:Act) (w:World),Hp P0 B w0 hp w->Fr (Imm P0 B hp) w a fr ->
  (∀ fr' a' w',Ext w w'->Fr (Imm P0 B hp) w' a' fr'->Q fr'->Q' .normal a' w')->ZDQ P md ops hp Q fuel listed fr->wpAny P md ops Q' fuel listed a w
 | 0,_,_,_,_,_,hf,hQ,h=>⟨h.1,hQ _ _ _ (Ext.refl _) hf h.2⟩
 | fuel+1,listed,fr,a,w,hh,hf,hQ,h=>by
  refine ⟨fun h0=>hQ _ _ _ (Ext.refl _) hf (h.1 h0),fun i hi=>?_⟩
  have h1:=h.2 i hi
  unfold sOp at h1
  unfold wpOp
  split
  ·rename_i ho;simp only [ho] at h1
   exact ZBi fuel _ _ _ _ hh hf hQ h1
  ·rename_i o ho;simp only [ho] at h1
   obtain ⟨d,h2,h3⟩:=h1
   have:=h2.step (Q:=Q') hh hf (K:=wpAny P md ops Q' fuel (listed.setIfInBounds i true)) fun a' w' e hf'=>ZBi fuel _ _ _ _ (hh.ext e) hf' (fun fr' a'' w'' e'=>hQ fr' a'' w'' (e.trans e')) h3
   split
   ·rename_i hw;rw [if_pos hw] at this;exact .inl this
   ·rename_i hw;rw [if_neg hw] at this;exact this

theorem ZIc {j:Nat} {oi oj:Oper} {di:Dat} (hj:ops[j]?=some oj) (hap:oi.apart ops oj=true) {K:List Dat->Prop} (hy:SYG P ops hp oi fr di) (h:sOp P ops hp j K (ZA fr oi.dst di)) :
  sOp P ops hp j (fun f=>SYG P ops hp oi f di/\K (ZA f oi.dst di)) fr:=by
 obtain ⟨h1,h2,h3⟩:=Oper.apart_spec hap
 unfold sOp at *
 simp only [hj] at *
 obtain ⟨d,hd,hk⟩:=h
 refine ⟨d,hd.same (ZAG _ _ _).symm fun t ht=>(ZAb fun e=>h1 t e ht).symm,hy.same (ZAG _ _ _) fun t ht=>ZAb fun e=>h3 t e ht,?_⟩
 rw [<- ZDO fr di d h2]
 exact hk

theorem ZDR {md:Region.Mode} {Q:List Dat->Prop} {i:Nat} {oi:Oper} {di:Dat} (hi:ops[i]?=some oi) :
  ∀ (fuel:Nat) (listed:Array Bool) (fr:List Dat),
   (∀ j oj,ops[j]?=some oj->j≠i->listed.getD j true=false->(∀ e∈oj.after,Region.binds md e=true->e.on≠i)->oi.apart ops oj=true) ->
   i∈Region.ready md ops listed->SYG P ops hp oi fr di ->
   ZDQ P md ops hp Q fuel (listed.setIfInBounds i true) (ZA fr oi.dst di)->ZDQ P md ops hp Q (fuel+1) listed fr:=by
 have one:∀ {K:List Dat->Prop} {fr:List Dat},SYG P ops hp oi fr di->K (ZA fr oi.dst di)->sOp P ops hp i K fr:=fun hy hk=>by unfold sOp;simp only [hi];exact ⟨di,hy,hk⟩
 intro fuel
 induction fuel with
 | zero =>
  intro listed fr _ hr hy H
  refine ⟨fun h=>(by rw [h] at hr;cases hr),fun j hj=>?_⟩
  by_cases hji:j=i
  ·subst hji;exact one hy H
  ·have:=ready_mono hj hji
   rw [H.1] at this
   cases this
 | succ fuel ih =>
  intro listed fr hfree hr hy H
  refine ⟨fun h=>(by rw [h] at hr;cases hr),fun j hj=>?_⟩
  by_cases hji:j=i
  ·subst hji;exact one hy H
  ·have h1:=H.2 j (ready_mono hj hji)
   obtain ⟨hjun,oj,hoj,hall⟩:=mem_ready.1 hj
   have hnot:∀ e∈oj.after,Region.binds md e=true->e.on≠i:=fun e he hb heq=>by
    have h1:=hall e he hb
    have h0:=(mem_ready.1 hr).1
    rw [heq] at h1
    rcases Nat.lt_or_ge i listed.size with h'|h'
    ·simp [h'] at h0 h1;rw [h0] at h1;cases h1
    ·simp [Array.getElem?_eq_none h'] at h1
   have h2:=ZIc hoj (hfree j oj hoj hji hjun hnot) hy h1
   have hfree':∀ k ok,ops[k]?=some ok->k≠i->(listed.setIfInBounds j true).getD k true=false ->
     (∀ e∈ok.after,Region.binds md e=true->e.on≠i)->oi.apart ops ok=true:=fun k ok hk hki hun hno=>by
    refine hfree k ok hk hki ?_ hno
    by_cases hjk:j=k
    ·subst hjk;exact hjun
    ·rw [getD_set_ne true hjk] at hun;exact hun
   refine ZF0 (fun f h3=>ih (listed.setIfInBounds j true) f hfree' (ready_mono hr (Ne.symm hji)) h3.1 ?_) h2
   rw [Array.setIfInBounds_comm _ _ hji]
   exact h3.2

inductive WD (P:Program) (ops:Array Oper) (hp:List HObj) (Q:List Dat->Prop):List Oper->List Dat->Prop
 | nil {fr:List Dat}:Q fr->WD P ops hp Q [] fr
 | op {o:Oper} {rest:List Oper} {fr:List Dat} {d:Dat}:SYG P ops hp o fr d->WD P ops hp Q rest (ZA fr o.dst d)->WD P ops hp Q (o::rest) fr

theorem ZCj {md:Region.Mode} {Q:List Dat->Prop}:∀ (l:List Oper) (k:Nat) (listed:Array Bool) (fr:List Dat),(∀ j,l[j]?=ops[k+j]?) ->
  Region.lexFrom md ops l.length k listed=true->WD P ops hp Q l fr->ZDQ P md ops hp Q l.length listed fr
 | [],_,_,_,_,hB,h=>⟨by simpa [Region.lexFrom] using hB,by cases h;assumption⟩
 | o::l,k,listed,fr,hl,hB,h=>by
  have h0:ops[k]?=some o:=by simpa using (hl 0).symm
  simp only [List.length_cons,Region.lexFrom,Bool.and_eq_true] at hB
  obtain ⟨⟨hr,hf⟩,hB'⟩:=hB
  cases h
  rename_i d hy hK
  exact ZDR h0 l.length listed fr (Region.free_spec h0 hf) (by simpa using hr) hy
   (ZCj l (k+1) _ _ (fun j=>by have:=hl (j+1);simpa [Nat.add_assoc,Nat.add_comm 1 j] using this) hB' hK)
end

def ZCE (Q:ZAW) (P0:Nat->Prop) (B:Nat) (w0:World):Exit->Act->World->Prop:=fun e a w=>∃ fr hp,Q e fr hp/\Hp P0 B w0 hp w/\Fr (Imm P0 B hp) w a fr
structure WL (P:Program) (ops:Array Oper) (Q:ZAW) (rest:List Oper) (fr:List Dat) (hp:List HObj):Prop where
 of ::
 out:∀ (P0:Nat->Prop) (B:Nat) (w0 w:World) (a:Act),Hp P0 B w0 hp w->Fr (Imm P0 B hp) w a fr->wpList P ops (ZCE Q P0 B w0) rest a w
structure WC (P:Program) (Q:ZAW) (c:Code) (fr:List Dat) (hp:List HObj):Prop where
 of ::
 out:∀ (P0:Nat->Prop) (B:Nat) (w0 w:World) (a:Act),Hp P0 B w0 hp w->Fr (Imm P0 B hp) w a fr->c.wp P (ZCE Q P0 B w0) a w
theorem WL.on {P:Program} {ops:Array Oper} {Q:ZAW} {rest:List Oper} {fr:List Dat} {hp:List HObj} (h:WL P ops Q rest fr hp) {P0:Nat->Prop} {B:Nat} {w0 w:World} {a:Act} (hh:Hp P0 B w0 hp w) (hf:Fr (Imm P0 B hp) w a fr):wpList P ops (ZCE Q P0 B w0) rest a w:=h.out _ _ _ _ _ hh hf
theorem WC.on {P:Program} {Q:ZAW} {c:Code} {fr:List Dat} {hp:List HObj} (h:WC P Q c fr hp) {P0:Nat->Prop} {B:Nat} {w0 w:World} {a:Act} (hh:Hp P0 B w0 hp w) (hf:Fr (Imm P0 B hp) w a fr):c.wp P (ZCE Q P0 B w0) a w:=h.out _ _ _ _ _ hh hf
section
variable {P:Program} {ops:Array Oper} {hp:List HObj} {o:Oper} {fr fr':List Dat} {d:Dat} {Q:ZAW} {rest:List Oper}
theorem WL.nil (h:Q .normal fr hp):WL P ops Q [] fr hp:=WL.of fun _ _ _ _ _ hh hf=>⟨fr,hp,h,hh,hf⟩
theorem ZS (h:SYG P ops hp o fr d) (k:WL P ops Q rest (ZA fr o.dst d) hp):WL P ops Q (o::rest) fr hp:=by
 refine WL.of fun P0 B w0 w a hh hf=>?_
 have:=h.step (Q:=ZCE Q P0 B w0) hh hf (K:=wpList P ops (ZCE Q P0 B w0) rest) fun a' w' e hf'=>k.on (hh.ext e) hf'
 unfold wpList
 split
 ·rename_i hw;rw [if_pos hw] at this;exact .inl this
 ·rename_i hw;rw [if_neg hw] at this;exact this
theorem WL.weak (h:WL P ops Q rest fr' hp) (hl:fr.length=fr'.length) (k:∀ (t:Nat) (d:Dat),fr'[t]?=some d->∃ d0:Dat,fr[t]?=some d0/\d0.le d):WL P ops Q rest fr hp:=WL.of fun _ _ _ _ _ hh hf=>h.on hh (hf.weak hl k)

theorem WC.region {id:Nat} {l:List Oper} (h:WL P l.toArray Q l fr hp):WC P Q (.region id l.toArray false) fr hp:=WC.of fun _ _ _ _ _ hh hf=>wp_region_lit (h.on hh hf)
theorem WC.draw {id:Nat} {l:List Oper} (hm:P.follows .mixedOrders=true) (hB:Region.lexB .any l.toArray=true) (h:WD P l.toArray hp (fun f=>Q .normal f hp) l fr):WC P Q (.region id l.toArray true) fr hp:=by
 refine WC.of fun P0 B w0 w a hh hf=>?_
 simp only [Region.lexB,Bool.and_eq_true] at hB
 have hx:Ext w { w with drawn:=w.drawn+1 }:=(Ext.refl w).drew
 refine wp_region_any hm (ZBi (Q:=fun f=>Q .normal f hp) _ _ fr _ _ (hh.ext hx) (hf.ext hx.b) (fun fr' a' w' e hf' hq=>⟨fr',hp,hq,(hh.ext hx).ext e,hf'⟩) ?_)
 have:=ZCj (md:=.any) l 0 (Array.replicate l.toArray.size false) fr (by simp) (by simpa using hB.2) h
 simpa using this
theorem WC.mono {Q':ZAW} {c:Code} (h:WC P Q c fr hp) (k:∀ e f p,Q e f p->Q' e f p):WC P Q' c fr hp:=WC.of fun _ _ _ _ _ hh hf=>Code.wp_mono (fun _ _ _ ⟨f,p,q,r⟩=>⟨f,p,k _ _ _ q,r⟩) (h.on hh hf)
theorem WC.seq {x y:Code} (h:WC P (ThenD (WC P Q y) Q) x fr hp):WC P Q (.seq x y) fr hp:=WC.of fun P0 B w0 w a hh hf=>wp_seq (Code.wp_mono (fun e a' w' ⟨f,p,q,r,s⟩=>by
 cases e with
 | normal=>exact (q:WC P Q y f p).on r s
 | _=>exact ⟨f,p,q,r,s⟩) (h.on hh hf))
theorem WC.skip (h:Q .normal fr hp):WC P Q .skip fr hp:=WC.of fun _ _ _ _ _ hh hf=>wp_skip ⟨fr,hp,h,hh,hf⟩
theorem WC.ret (h:Q .ret fr hp):WC P Q .ret fr hp:=WC.of fun _ _ _ _ _ hh hf=>wp_ret ⟨fr,hp,h,hh,hf⟩
theorem WC.exit {id:Nat} (h:Q (.exit id) fr hp):WC P Q (.exit id) fr hp:=WC.of fun _ _ _ _ _ hh hf=>wp_exit ⟨fr,hp,h,hh,hf⟩
theorem WC.block {id:Nat} {c:Code} (h:WC P (InBlockD id Q) c fr hp):WC P Q (.block id c) fr hp:=WC.of fun P0 B w0 w a hh hf=>wp_block (Code.wp_mono (fun e a' w' ⟨f,p,q,r,s⟩=>by
 cases e with
 | exit id' =>
  simp only [Exit.inBlock]
  simp only [InBlockD] at q
  split
  ·rename_i hi;rw [if_pos hi] at q;exact ⟨f,p,q,r,s⟩
  ·rename_i hi;rw [if_neg hi] at q;exact ⟨f,p,q,r,s⟩
 | _=>exact ⟨f,p,q,r,s⟩) (h.on hh hf))
theorem WC.cond {c:Operand} {x y:Code} {b:Bool} (hc:OpD fr c (dB b)) (ht:b=true->WC P Q x fr hp) (hf:b=false->WC P Q y fr hp):WC P Q (.cond c x y) fr hp:=WC.of fun _ _ _ _ _ hh hfr =>
 wp_cond_split (t:=b) (hc.ev hfr) (fun h=>(ht h).on hh hfr) (fun h=>(hf h).on hh hfr)
theorem WC.weak {c:Code} (h:WC P Q c fr' hp) (hl:fr.length=fr'.length) (k:∀ (t:Nat) (d:Dat),fr'[t]?=some d->∃ d0:Dat,fr[t]?=some d0/\d0.le d):WC P Q c fr hp:=WC.of fun _ _ _ _ _ hh hf=>h.on hh (hf.weak hl k)
theorem WC.loop {X:Type} {c:Code} (F:X->List Dat) (H:X->List HObj) (μ:X->Nat) (p:X->Prop) (x0:X) (h0:p x0) (hF:fr.length=(F x0).length/\∀ (t:Nat) (d:Dat),(F x0)[t]?=some d->∃ d0:Dat,fr[t]?=some d0/\d0.le d) (hH:hp=H x0)
  (round:∀ x,p x->WC P (ThenD (fun f q=>∃ x',p x'/\μ x'<μ x/\q=H x'/\f.length=(F x').length/\∀ (t:Nat) (d:Dat),(F x')[t]?=some d->∃ d0:Dat,f[t]?=some d0/\d0.le d) Q) c (F x) (H x)):WC P Q (.loop c) fr hp:=by
 refine WC.of fun P0 B w0 w a hh hf=>?_
 have hf1:=hf.weak hF.1 hF.2
 subst hH
 intro b k cs
 have key:∀ (n:Nat) (x:X) (a':Act) (w':World),μ x=n->p x->Hp P0 B w0 (H x) w'->Fr (Imm P0 B (H x)) w' a' (F x) ->
   ∃ e a2 w2,ZCE Q P0 B w0 e a2 w2/\Arrives P (lone (b.at a' (.code c :: .inLoop c::k)) cs w') b k cs e a2 w2:=by
  intro n
  induction n using Nat.strongRecOn with
  | _ n ih =>
   intro x a' w' hn hp' hh' hf'
   obtain ⟨e,a1,w1,hq,harr⟩:=(round x hp').on hh' hf' b (.inLoop c::k) cs
   cases e with
   | normal =>
    obtain ⟨f,q,hq,h1,h2⟩:=hq
    obtain ⟨x',px,hlt,rfl,hl,hle⟩:=(hq:∃ x',_)
    obtain ⟨e2,a2,w2,hq2,harr2⟩:=ih (μ x') (hn ▸ hlt) x' a1 w1 rfl px h1 (h2.weak hl hle)
    exact ⟨e2,a2,w2,hq2,.of_steps (Steps.trans harr (.one step_inLoop)) harr2⟩
   | exit id=>exact ⟨_,a1,w1,hq,.pass (x:=.inLoop c) rfl (fun _ _=>.inl (by simp)) harr⟩
   | goto l=>exact ⟨_,a1,w1,hq,.pass (x:=.inLoop c) rfl (fun _ _=>.inl (by simp)) harr⟩
   | ret=>exact ⟨_,a1,w1,hq,.pass (x:=.inLoop c) rfl (fun _ _=>.inl (by simp)) harr⟩
   | panic ch=>exact ⟨_,a1,w1,hq,.pass (x:=.inLoop c) rfl (fun _ _=>.inl (by simp)) harr⟩
   | outgrown=>exact ⟨_,a1,w1,hq,.pass (x:=.inLoop c) rfl (fun _ _=>.inl (by simp)) harr⟩
 obtain ⟨e,a',w',hq,harr⟩:=key _ x0 a w rfl h0 hh hf1
 exact ⟨e,a',w',hq,.of_steps (.one step_loop) harr⟩
end


open Go.RowKit

section
variable {P:Program} {ops:Array Oper} {hp:List HObj} {o:Oper} {fr:List Dat} {d:Dat} {Q:ZAW} {rest:List Oper}
variable {dst:Option Tmp} {ty:TypeId} {ps:String} {af:Array Edge} {g:Option (Nat × Bool)}

theorem SYG.yes (h:WantS ops o fr true) (k:SY P ops hp o fr d):SYG P ops hp o fr d:=.inl ⟨h,k⟩
theorem SY.val (h:∀ {I:Nat->Prop} {w:World} {a:Act},On (o.looksAt ops) I w a fr->∃ v,(execOp a.eval o).run P w = .ok (.value v) w/\d.rd I w v):SY P ops hp o fr d:=SY.mk fun _ ho K Q hk=>by
 obtain ⟨v,h1,h2⟩:=h ho
 unfold Oper.wp
 rw [h1]
 exact hk v _ (Ext.refl _) h2
theorem ZAf (h:∀ {P0:Nat->Prop} {B:Nat} {w0 w:World} {a:Act},Hp P0 B w0 hp w->On (o.looksAt ops) (Imm P0 B hp) w a fr->∃ v w',(execOp a.eval o).run P w = .ok (.value v) w'/\Ext w w'/\d.rd (Imm P0 B hp) w' v):SY P ops hp o fr d:=SY.mk fun hh ho K Q hk=>by
 obtain ⟨v,w',h1,h2,h3⟩:=h hh ho
 unfold Oper.wp
 rw [h1]
 exact hk v _ h2 h3
theorem SY.mono {d':Dat} (h:SY P ops hp o fr d) (hle:d.le d'):SY P ops hp o fr d':=SY.mk fun hh ho K Q hk=>h.out hh ho K Q fun v w' e hd=>hk v w' e (hle _ _ _ hd)

theorem SY.move {x:Operand} (hx:OpD fr x d):SY P ops hp ⟨dst,.move x,ty,ps,af,g⟩ fr d :=
 SY.val fun {I w a} ho=>⟨a.eval x,by unfold execOp;simp only [Sem.run_pure],hx.get (by simp [Op.operands]) ho⟩
theorem SY.assign {x:Operand} (hx:OpD fr x d):SY P ops hp ⟨dst,.assign x,ty,ps,af,g⟩ fr d :=
 SY.val fun {I w a} ho=>⟨a.eval x,by unfold execOp;simp only [Sem.run_pure],hx.get (by simp [Op.operands]) ho⟩
theorem SY.len {x:Operand} {t e:TypeId} {n:Nat} (hx:OpD fr x d) (hd:∀ (I:Nat->Prop) (w:World) (v:Value),d.rd I w v->Len v n) (hu:UndT P t e):SY P ops hp ⟨dst,.call { callee:=.builtin .len,args:=#[x],argTypes:=#[t] },ty,ps,af,g⟩ fr (dI n) :=
 SY.val fun {I w a} ho=>⟨.int .i64 n,by
  have:=hd _ _ _ (hx.get (by simp [Op.operands,Call.operands]) ho)
  unfold execOp
  simp only [resolve,invoke,builtin,Sem.run_bind,Sem.run_pure,Result.andThen_ok,List.map_toArray,List.map_cons,List.map_nil,ZIa hu.out this],rfl⟩
theorem SY.ix {x i:Operand} {t e:TypeId} {z:Value} {bytes:Nat} (E:ElT P t e 1 z bytes false) {α:Type} {R:Rel α} {_gR:Good R} {xs:List α} {k:Nat} (hx:OpD fr x (dS (Arr R) xs)) (hi:OpD fr i (dI (k:Int))) (hk:k<xs.length):SY P ops hp ⟨dst,.indexAddr t x i,ty,ps,af,g⟩ fr (dP 1 false (dS R xs[k])) :=
 SY.val fun {I w a} ho=>by
  have h1:Arr R I w (a.eval x) xs:=hx.get (by simp [Op.operands]) ho
  have h2:a.eval i = .int .i64 k:=hi.get (by simp [Op.operands]) ho
  obtain ⟨ad,cap,hv,c1,c2,c3⟩:=h1
  obtain ⟨u,b,off,r1,r2,rfl,r4,r5⟩:=c3 k hk
  refine ⟨.pointer (some ⟨b,off+k*1,none⟩),?_,b,off+k*1,u,rfl,⟨r4,[u],rfl,Nat.one_pos,?_,?_,rfl⟩,r1⟩
  ·unfold execOp
   simp only [hv,h2,Sem.run_bind,ZBL (w:=w) E b off xs.length cap k .i64 hk,Result.andThen_ok,Sem.run_pure]
  ·intro c hc;rw [List.mem_singleton.1 hc];exact r2
  ·intro j c hc
   have:j=0:=by
    have:=(List.getElem?_eq_some_iff.1 hc).1
    simp at this;exact this
   subst this
   cases hc
   simpa using r5
theorem Zi {x i:Operand} {t e:TypeId} {z:Value} {bytes n:Nat} {ag:Bool} (E:ElT P t e n z bytes ag) {α:Type} {R:Rel α} {_gR:Good R} {xs:List α} {k:Nat} (hx:OpD fr x (dS (ArrK n R) xs)) (hi:OpD fr i (dI (k:Int))) (hk:k<xs.length):SY P ops hp ⟨dst,.indexAddr t x i,ty,ps,af,g⟩ fr (dP n true (dS R xs[k])) :=
 SY.val fun {I w a} ho=>by
  have h1:ArrK n R I w (a.eval x) xs:=hx.get (by simp [Op.operands]) ho
  have h2:a.eval i = .int .i64 k:=hi.get (by simp [Op.operands]) ho
  obtain ⟨ad,cap,hv,c1,c2,c0,c3⟩:=h1
  obtain ⟨cs,b,off,r1,r2,r3,rfl,r4,r5⟩:=c3 k hk
  refine ⟨.pointer (some ⟨b,off+k*n,none⟩),?_,b,off+k*n,_,rfl,⟨r4,cs,r2,c0,r3,r5,rfl⟩,r1⟩
  unfold execOp
  simp only [hv,h2,Sem.run_bind,ZBL (w:=w) E b off xs.length cap k .i64 hk,Result.andThen_ok,Sem.run_pure]
theorem SY.load {x:Operand} {T:TypeId} {n:Nat} {agg:Bool} (T':TyI P T n agg) (hx:OpD fr x (dP n agg d)):SY P ops hp ⟨dst,.load T x,ty,ps,af,g⟩ fr d :=
 SY.val fun {I w a} ho=>by
  obtain ⟨b,off,u,h1,h2,h3⟩:=hx.get (by simp [Op.operands]) ho
  refine ⟨u,?_,h3⟩
  unfold execOp
  simp only [h1,Sem.run_bind,ZA3 T' h2,Result.andThen_ok,Sem.run_pure]
theorem SY.box {x:Operand} {T:TypeId} {n:Nat} {agg:Bool} (hx:OpD fr x d) (hs:d.Shape n agg):SY P ops hp ⟨dst,.box T x,ty,ps,af,g⟩ fr (dP n agg d) :=
 ZAf fun {P0 B w0 w a} hh ho=>by
  have h1:=hx.get (by simp [Op.operands]) ho
  obtain ⟨cs,k1,k0,k2,k3,k4⟩:=hs _ _ _ h1
  refine ⟨.pointer (some ⟨w.heap.size,0,none⟩),w.alloc (.cells cs.toArray T),?_,Ext.of_alloc _ _,w.heap.size,0,a.eval x,rfl,ZAp (Z0 w _) k1 k0 k2 k4 (hh.fresh (Nat.le_refl _)),Dat.ext h1 (Ext.of_alloc _ _)⟩
  unfold execOp
  simp [Instr.box,newVar,newRow,k3]

theorem Ze {c:Code} {p:Prop} {t:Nat} (ht:fr[t]?=some d) (hd:∀ (I:Nat->Prop) (w:World) (v:Value),d.rd I w v->p) (h:p->WC P Q c fr hp):WC P Q c fr hp:=WC.of fun _ _ _ _ _ hh hf=>(h (hd _ _ _ (hf.rd t d ht))).on hh hf
theorem ZBA {op:BinOp} {x y:Operand} {T T2:TypeId} {p q:Int} {r:Value} (hx:OpD fr x (dI p)) (hy:OpD fr y (dI q)) (hr:∀ w,(Go.binOp op T (.int .i64 p) (.int .i64 q)).run P w = .ok r w) (hd:∀ (I:Nat->Prop) (w:World),d.rd I w r):SY P ops hp ⟨dst,.binOp op T x y T2,ty,ps,af,g⟩ fr d :=
 SY.val fun {I w a} ho=>by
  have h1:a.eval x = .int .i64 p:=hx.get (by simp [Op.operands]) ho
  have h2:a.eval y = .int .i64 q:=hy.get (by simp [Op.operands]) ho
  refine ⟨r,?_,hd _ _⟩
  unfold execOp
  have hg:(eqGuard op T x y (.int .i64 p) (.int .i64 q)).run P w = .ok () w:=by unfold eqGuard;split <;> simp
  simp only [h1,h2,Sem.run_bind,hg,hr,Result.andThen_ok,Sem.run_pure]
section
variable {x y:Operand} {T T2:TypeId} {p q:Int} (hx:OpD fr x (dI p)) (hy:OpD fr y (dI q))
include hx hy
theorem SY.lss:SY P ops hp ⟨dst,.binOp .lss T x y T2,ty,ps,af,g⟩ fr (dB (decide (p<q))):=ZBA hx hy (fun w=>by simp [Go.binOp,Op.intCmp]) fun _ _=>rfl
theorem SY.gtr:SY P ops hp ⟨dst,.binOp .gtr T x y T2,ty,ps,af,g⟩ fr (dB (decide (q<p))):=ZBA hx hy (fun w=>by simp [Go.binOp,Op.intCmp]) fun _ _=>rfl
theorem SY.geq:SY P ops hp ⟨dst,.binOp .geq T x y T2,ty,ps,af,g⟩ fr (dB (decide (q≤p))):=ZBA hx hy (fun w=>by simp [Go.binOp,Op.intCmp]) fun _ _=>rfl
theorem SY.neq:SY P ops hp ⟨dst,.binOp .neq T x y T2,ty,ps,af,g⟩ fr (dB (!decide (p=q))):=ZBA hx hy (fun w=>by simp [Go.binOp,Op.intCmp];rfl) fun _ _=>rfl
theorem SY.add (h : -9223372036854775808≤p+q/\p+q≤9223372036854775807):SY P ops hp ⟨dst,.binOp .add T x y T2,ty,ps,af,g⟩ fr (dI (p+q)):=ZBA hx hy (fun w=>by simp [Go.binOp,Op.intArith,ZFN h]) fun _ _=>rfl
theorem SY.sub (h : -9223372036854775808≤p-q/\p-q≤9223372036854775807):SY P ops hp ⟨dst,.binOp .sub T x y T2,ty,ps,af,g⟩ fr (dI (p-q)):=ZBA hx hy (fun w=>by simp [Go.binOp,Op.intArith,ZFN h]) fun _ _=>rfl
end
theorem SY.extract {x:Operand} {i:Nat} {ds:List Dat} (hx:OpD fr x (dT ds)) (hd:ds[i]?=some d):SY P ops hp ⟨dst,.extract x i,ty,ps,af,g⟩ fr d :=
 SY.val fun {I w a} ho=>by
  obtain ⟨vs,h1,h2,h3⟩:=hx.get (by simp [Op.operands]) ho
  have hi:i<vs.length:=by rw [h2];exact (List.getElem?_eq_some_iff.1 hd).1
  refine ⟨vs[i],?_,h3 i d _ hd (List.getElem?_eq_getElem hi)⟩
  unfold execOp
  simp [h1,Instr.extract,hi]

structure Fn (P:Program) (f:FuncId) (args:List Dat) (res:Dat):Prop where
 out:∀ (I:Nat->Prop) (w:World) (vs:List Value),vs.length=args.length->(∀ (i:Nat) (d:Dat),args[i]?=some d->d.rd I w (vs.getD i undef)) ->
  Calls P f vs.toArray w fun e w'=>∃ v,e = .returned v/\Ext w w'/\res.rd (fun b=>I b\/w.heap.size≤b) w' v
theorem ZHW {f:FuncId} {args:Array Operand} {ats:Array TypeId} (hf:∀ (args:Array Value) (w:World),(callFunc f args).run P w = .ok (.enter f args) w)
  (h:∀ {P0:Nat->Prop} {B:Nat} {w0 w:World} {a:Act},Hp P0 B w0 hp w->On ((⟨dst,.call { callee:=.value (.func f),args:=args,argTypes:=ats },ty,ps,af,g⟩:Oper).looksAt ops) (Imm P0 B hp) w a fr->Calls P f (args.map a.eval) w fun e w'=>∃ v,e = .returned v/\Ext w w'/\d.rd (Imm P0 B hp) w' v) :
  SY P ops hp ⟨dst,.call { callee:=.value (.func f),args:=args,argTypes:=ats },ty,ps,af,g⟩ fr d:=SY.mk fun {P0 B w0 w a} hh ho K Q hk=>by
 have h1:=h hh ho
 unfold Oper.wp
 have:(execOp a.eval ⟨dst,.call { callee:=.value (.func f),args:=args,argTypes:=ats },ty,ps,af,g⟩).run P w = .ok (.enter f (args.map a.eval)) w:=by
  unfold execOp
  simp only [resolve]
  simp [Act.eval,Deferred.ofValue,invoke,hf]
 rw [this]
 exact h1.mono fun e w' ⟨v,he,e1,hd⟩=>by subst he;exact hk v w' e1 hd
theorem SY.call {f:FuncId} {args:Array Operand} {ats:Array TypeId} {ds:List Dat} (hF:Fn P f ds d) (hf:∀ (args:Array Value) (w:World),(callFunc f args).run P w = .ok (.enter f args) w) (ha:ArgsD fr args.toList ds) :
  SY P ops hp ⟨dst,.call { callee:=.value (.func f),args:=args,argTypes:=ats },ty,ps,af,g⟩ fr d :=
 ZHW hf fun {P0 B w0 w a} hh ho=>by
  have h1:=hF.out (Imm P0 B hp) w (args.toList.map a.eval) (by simpa using ha.1) fun i d hd=>by
   have hi:i<args.toList.length:=by rw [ha.1];exact (List.getElem?_eq_some_iff.1 hd).1
   have h2:=ha.2 i _ d (List.getElem?_eq_getElem hi) hd
   have:=h2.get (by simp only [Op.operands,Call.operands];simp) ho
   have hi':i<args.size:=by simpa using hi
   simpa [List.getD,hi'] using this
  have he:(args.toList.map a.eval).toArray=args.map a.eval:=by apply Array.ext';simp
  rw [he] at h1
  exact h1.mono fun e w' ⟨v,h1,h2,h3⟩=>⟨v,h1,h2,d.weak h3 fun k hk=>hk.elim id hh.fresh⟩
theorem WC.id {c:Code} (h:WC P Q c fr hp):WC P Q c fr hp:=h
theorem WL.id (h:WL P ops Q rest fr hp):WL P ops Q rest fr hp:=h
theorem ZC {x y:Code} (h:∀ K:List Dat->List HObj->Prop,(∀ f p,WC P Q y f p->Kont K f p)->WC P (ThenD (Kont K) Q) x fr hp):WC P Q (.seq x y) fr hp :=
 WC.seq ((h (WC P Q y) fun _ _ h=>⟨h⟩).mono fun e f p q=>by
  cases e with
  | normal=>exact (q:Kont _ f p).out
  | _=>exact q)

section
variable {c:Operand} {x y:Code} {p:Prop} {_ip:Decidable p} {b:Bool}
theorem ZK (hc:OpD fr c (dB b)) (hb:b=false) (h:WC P Q y fr hp):WC P Q (.cond c x y) fr hp:=WC.cond hc (fun h=>by rw [hb] at h;cases h) (fun _=>h)
theorem ZE (hc:OpD fr c (dB (decide p))) (ht:p->WC P Q x fr hp) (hf:¬ p->WC P Q y fr hp):WC P Q (.cond c x y) fr hp:=WC.cond hc (fun h=>ht (of_decide_eq_true h)) (fun h=>hf (of_decide_eq_false h))
theorem WC.condN (hc:OpD fr c (dB (!decide p))) (ht:¬ p->WC P Q x fr hp) (hf:p->WC P Q y fr hp):WC P Q (.cond c x y) fr hp:=WC.cond hc (fun h=>ht (by simpa using h)) (fun h=>hf (by simpa using h))
end

theorem WC.loopU {X:Type} {c:Code} (ups:X->List (Nat × Dat)) (H:X->List HObj) (μ:X->Nat) (p:X->Prop) (x0:X) (h0:p x0) (hF:LeF fr (Za fr (ups x0))) (hH:hp=H x0)
  (round:∀ x,p x->WC P (ThenD (fun f q=>∃ x',p x'/\μ x'<μ x/\q=H x'/\LeF f (Za fr (ups x'))) Q) c (Za fr (ups x)) (H x)):WC P Q (.loop c) fr hp :=
 WC.loop (fun x=>Za fr (ups x)) H μ p x0 h0 hF.out hH fun x hx=>(round x hx).mono fun e f q h=>by
  cases e with
  | normal=>obtain ⟨x',h1,h2,h3,h4⟩:=(h:∃ x',_);exact ⟨x',h1,h2,h3,h4.out.1,h4.out.2⟩
  | _=>exact h
structure FinD (hp:List HObj) (d d':Dat):Prop where
 out:∀ {P0:Nat->Prop} {B:Nat} {w0 w:World} {v:Value},Hp P0 B w0 hp w->d.rd (Imm P0 B hp) w v->d'.rd (fun b=>P0 b\/B≤b) w v
theorem FinD.le {d':Dat} (h:d.le d'):FinD hp d d':=⟨fun _ hd=>h _ _ _ (d.weak hd fun _ hk=>hk.1)⟩
theorem FinD.i {x y:Int} (h:x=y):FinD hp (dI x) (dI y):=FinD.le (ZRX h)
theorem FinD.b {x y:Bool} (h:x=y):FinD hp (dB x) (dB y):=FinD.le (ZOr (by rw [h]))
theorem ZCV {α:Type} {R:Rel α} {_gR:Good R} {x y:α} (h:x=y):FinD hp (dS R x) (dS R y):=FinD.le (ZOr (by rw [h]))
def fin1 (t:Nat) (res:Dat):ZAW:=fun e fr hp=>(match e with|.normal|.ret=>True|_=>False)/\∃ d,fr[t]?=some d/\FinD hp d res
theorem ZCm {f:FuncId} {fn:Func} {c:Code} {args:List Dat} {res:Dat} {Q:ZAW} (hf:P.funcs[f]?=some fn) (hb:fn.body=some c)
  (hQ:∀ (e:Exit) (fr:List Dat) (hp:List HObj),Q e fr hp->(e = .normal\/e = .ret)/\∀ {P0:Nat->Prop} {B:Nat} {w0 w:World} {a:Act},Hp P0 B w0 hp w->Fr (Imm P0 B hp) w a fr->∃ v,(results fn a.tmps).run P w = .ok v w/\res.rd (fun b=>P0 b\/B≤b) w v)
  (h:WC P Q c (args++List.replicate (fn.ntmps-args.length) (dX undef)) []):Fn P f args res:=Fn.mk fun I w vs hl hv=>by
 refine calls_of_wp hf hb ?_
 have hfr:Fr (Imm (fun b=>I b/\b<w.heap.size) w.heap.size []) w { tmps:=vs.toArray++Array.replicate (fn.ntmps-vs.toArray.size) undef,defers:=[] } (args++List.replicate (fn.ntmps-args.length) (dX undef)):=by
  have:=ZBI (m:=fn.ntmps-args.length) (I:=Imm (fun b=>I b/\b<w.heap.size) w.heap.size []) hl fun i d hd=>d.weak (d.bound (hv i d hd)) fun k hk=>⟨.inl hk,(fun o ho=>by cases ho)⟩
  simpa [hl] using this
 refine Code.wp_mono (fun e a' w' ⟨f',p',q,hh,hf'⟩=>?_) (h.on hp_enter hfr)
 obtain ⟨he,hr⟩:=hQ e f' p' q
 obtain ⟨v,h1,h2⟩:=hr hh hf'
 have hx:res.rd (fun b=>I b\/w.heap.size≤b) w' v:=res.weak h2 fun k hk=>hk.elim (fun h=>.inl h.1) .inr
 rcases he with rfl|rfl
 ·exact ⟨hf'.defers,v,h1,v,rfl,⟨hh.h.below,hh.d⟩,hx⟩
 ·exact ⟨hf'.defers,v,h1,v,rfl,⟨hh.h.below,hh.d⟩,hx⟩
theorem ZH {f:FuncId} {fn:Func} {c:Code} {args:List Dat} {res:Dat} {t:Tmp} (hf:P.funcs[f]?=some fn) (hb:fn.body=some c) (hr:fn.results=#[.tmp t])
  (h:WC P (fin1 t res) c (args++List.replicate (fn.ntmps-args.length) (dX undef)) []):Fn P f args res :=
 ZCm hf hb (fun e fr hp q=>by
  obtain ⟨he,d,hd,hfin⟩:=q
  refine ⟨by cases e <;> simp_all,fun {P0 B w0 w a} hh hf'=>⟨_,results_tmp hr _ _ _,hfin.out hh (hf'.rd t d hd)⟩⟩) h
theorem Fn.mono {f:FuncId} {args:List Dat} {res res':Dat} (h:Fn P f args res) (hle:res.le res'):Fn P f args res':=Fn.mk fun I w vs hl hv=>(h.out I w vs hl hv).mono fun _ _ ⟨v,h1,h2,h3⟩=>⟨v,h1,h2,hle _ _ _ h3⟩
end


open Go.RowKit

section
variable {P:Program} {ops:Array Oper} {hp:List HObj} {o:Oper} {fr:List Dat} {d:Dat} {Q:ZAW} {rest:List Oper}
variable {dst:Option Tmp} {ty:TypeId} {ps:String} {af:Array Edge} {g:Option (Nat × Bool)}

theorem ZCX {t e:TypeId} {n bytes:Nat} {z:Value} {ag:Bool} (E:ElT P t e n z bytes ag) {agg:Bool} {α:Type} {R:Rel α} [Good R] {len:Nat} {parts:Array (Nat × Operand)} {xs:List Operand} {as1:List α} (hx:ElsD fr R xs as1) (hl:len=as1.length) (hparts:parts.toList=(xs.zipIdx).map (fun p=>(p.2,p.1))) (hs:∀ a,(dS R a).Shape n agg) (hsm:as1.length*n≤16777216)
  {P0:Nat->Prop} {B:Nat} {w0 w:World} {a:Act} (_hh:Hp P0 B w0 hp w) (ho:On ((⟨dst,.buildSlice t len parts,ty,ps,af,g⟩:Oper).looksAt ops) (Imm P0 B hp) w a fr) :
  ∃ css:List (List Value),(execOp a.eval ⟨dst,.buildSlice t len parts,ty,ps,af,g⟩).run P w = .ok (.value (.slice (some ⟨w.heap.size,0,none⟩) as1.length as1.length)) (w.alloc (.cells css.flatten.toArray e))/\css.length=as1.length/\(∀ cs∈css,cs.length=n/\∀ c∈cs,c.oneCell'=true) /\
   ∀ (k:Nat) (cs:List Value) (b:α),css[k]?=some cs->as1[k]?=some b->∃ u,(if agg then u = .agg cs.toArray else cs=[u])/\R (Imm P0 B hp) w u b:=by
 obtain ⟨hlen,hget⟩:=hx.out
 have hmem:∀ x∈xs,x∈(Op.buildSlice t len parts).operands.toList:=fun x hxm=>by
  simp only [Op.operands,hparts,List.map_map]
  have:(Prod.snd ∘ fun p:Operand × Nat=>(p.2,p.1))=Prod.fst:=rfl
  rw [this,List.zipIdx_map_fst]
  simpa using hxm
 have hch:∀ k:Nat,∃ cs:List Value,∀ (x:Operand) (b:α),xs[k]?=some x->as1[k]?=some b->cs.length=n/\(∀ c∈cs,c.oneCell'=true)/\(a.eval x).cells=cs.toArray/\(if agg then a.eval x = .agg cs.toArray else cs=[a.eval x])/\R (Imm P0 B hp) w (a.eval x) b:=fun k=>by
  by_cases hk:k<xs.length
  ·have hk':k<as1.length:=by omega
   have hr:=(hget k xs[k] as1[k] (List.getElem?_eq_getElem hk) (List.getElem?_eq_getElem hk')).get (hmem _ (List.getElem_mem hk)) ho
   obtain ⟨cs,k1,k0,k2,k3,k4⟩:=hs as1[k] _ _ _ hr
   refine ⟨cs,fun x b hx hb=>?_⟩
   rw [List.getElem?_eq_getElem hk] at hx
   rw [List.getElem?_eq_getElem hk'] at hb
   cases hx;cases hb
   exact ⟨k1,k2,k3,k4,hr⟩
  ·exact ⟨[],fun x b hx=>by rw [List.getElem?_eq_none (by omega)] at hx;cases hx⟩
 obtain ⟨f,hf⟩:=Classical.axiomOfChoice hch
 have hfk:∀ k:Nat,k<xs.length->(f k).length=n/\(∀ c∈f k,c.oneCell'=true)/\(a.eval (xs.getD k default)).cells=(f k).toArray:=fun k hk=>by
  have hk':k<as1.length:=by omega
  obtain ⟨q1,q2,q3,_⟩:=hf k xs[k] as1[k] (List.getElem?_eq_getElem hk) (List.getElem?_eq_getElem hk')
  exact ⟨q1,q2,by simpa [List.getD,hk] using q3⟩
 refine ⟨(List.range xs.length).map f,?_,by simp [hlen],?_,?_⟩
 ·have:=ZBP (w:=w) E (us:=xs.map a.eval) (css:=(List.range xs.length).map f) (by simp) (fun i u cs hu hcs=>by
   have hi:i<xs.length:=by
    have:=(List.getElem?_eq_some_iff.1 hu).1
    simpa using this
   rw [List.getElem?_map,List.getElem?_eq_getElem hi] at hu
   rw [List.getElem?_map,List.getElem?_range hi] at hcs
   cases hu;cases hcs
   have:=hfk i hi
   exact ⟨by simpa [List.getD,hi] using this.2.2,this.1⟩) (by simpa [hlen] using hsm)
  have hp2:(parts.map fun p=>(p.1,a.eval p.2))=(((xs.map a.eval).zipIdx).map fun p=>(p.2,p.1)).toArray:=by
   apply Array.ext'
   rw [Array.toList_map,hparts,List.zipIdx_map]
   simp [Function.comp_def]
  unfold execOp
  simp only
  have hp3:(parts.map fun x=>match x with|(i,x)=>(i,a.eval x))=(((xs.map a.eval).zipIdx).map fun p=>(p.2,p.1)).toArray:=hp2
  rw [hp3]
  subst hl
  have hl2:(xs.map a.eval).length=as1.length:=by simp [hlen]
  rw [hl2] at this
  simp only [Sem.run_bind,this,Result.andThen_ok,Sem.run_pure]
 ·intro cs hcs
  simp only [List.mem_map,List.mem_range] at hcs
  obtain ⟨k,hk,rfl⟩:=hcs
  exact ⟨(hfk k hk).1,(hfk k hk).2.1⟩
 ·intro k cs b hcs hb
  have hk':k<as1.length:=(List.getElem?_eq_some_iff.1 hb).1
  have hk:k<xs.length:=by omega
  rw [List.getElem?_map,List.getElem?_range hk] at hcs
  cases hcs
  obtain ⟨q1,q2,q3,q4,q5⟩:=hf k xs[k] b (List.getElem?_eq_getElem hk) hb
  exact ⟨_,q4,q5⟩
theorem SY.buildK {t e:TypeId} {n bytes:Nat} {z:Value} {ag:Bool} (E:ElT P t e n z bytes ag) {α:Type} {R:Rel α} [Good R] {len:Nat} {parts:Array (Nat × Operand)} {xs:List Operand} {as1:List α} (hx:ElsD fr R xs as1) (hparts:parts.toList=(xs.zipIdx).map (fun p=>(p.2,p.1))) (hl:len=as1.length) (hn:0<n) (hs:∀ a,(dS R a).Shape n true) (hsm:as1.length*n≤16777216) :
  SY P ops hp ⟨dst,.buildSlice t len parts,ty,ps,af,g⟩ fr (dS (ArrK n R) as1):=ZAf fun {P0 B w0 w a} hh ho=>by
 obtain ⟨css,hr,hcl,hcn,hel⟩:=ZCX E hx hl hparts hs hsm hh ho
 refine ⟨_,_,hr,Ext.of_alloc _ _,some ⟨w.heap.size,0,none⟩,as1.length,rfl,Nat.le_refl _,by simp only [maxLen];have:as1.length*1≤as1.length*n:=Nat.mul_le_mul_left _ hn;omega,hn,fun k hk=>?_⟩
 have hkc:k<css.length:=by omega
 obtain ⟨u,hu,hR⟩:=hel k css[k] as1[k] (List.getElem?_eq_getElem hkc) (List.getElem?_eq_getElem hk)
 simp only [if_true] at hu
 subst hu
 have hm:=hcn css[k] (List.getElem_mem hkc)
 refine ⟨css[k],w.heap.size,0,Good.ext (R:=R) hR (Ext.of_alloc _ _).b,hm.1,hm.2,rfl,hh.fresh (Nat.le_refl _),fun j c hc=>?_⟩
 rw [cell_of_row _ _ _ _ _ _ (Z0 w _),Nat.zero_add]
 simpa using ZAV (fun u hu=>(hcn u hu).1) hkc hc
theorem SY.build1 {t e:TypeId} {bytes:Nat} {z:Value} {ag:Bool} (E:ElT P t e 1 z bytes ag) {α:Type} {R:Rel α} [Good R] {len:Nat} {parts:Array (Nat × Operand)} {xs:List Operand} {as1:List α} (hx:ElsD fr R xs as1) (hparts:parts.toList=(xs.zipIdx).map (fun p=>(p.2,p.1))) (hl:len=as1.length) (hs:∀ a,(dS R a).Shape 1 false) (hsm:as1.length*1≤16777216) :
  SY P ops hp ⟨dst,.buildSlice t len parts,ty,ps,af,g⟩ fr (dS (Arr R) as1):=ZAf fun {P0 B w0 w a} hh ho=>by
 obtain ⟨css,hr,hcl,hcn,hel⟩:=ZCX E hx hl hparts hs hsm hh ho
 refine ⟨_,_,hr,Ext.of_alloc _ _,some ⟨w.heap.size,0,none⟩,as1.length,rfl,Nat.le_refl _,by simp only [maxLen];omega,fun k hk=>?_⟩
 have hkc:k<css.length:=by omega
 obtain ⟨u,hu,hR⟩:=hel k css[k] as1[k] (List.getElem?_eq_getElem hkc) (List.getElem?_eq_getElem hk)
 simp only [Bool.false_eq_true,if_false] at hu
 have hm:=hcn css[k] (List.getElem_mem hkc)
 have h1:u.oneCell'=true:=hm.2 u (by rw [hu];simp)
 refine ⟨u,w.heap.size,0,Good.ext (R:=R) hR (Ext.of_alloc _ _).b,h1,rfl,hh.fresh (Nat.le_refl _),?_⟩
 rw [cell_of_row _ _ _ _ _ _ (Z0 w _),Nat.zero_add]
 have:=ZAV (k:=k) (j:=0) (c:=u) (fun u hu=>(hcn u hu).1) hkc (by rw [hu];rfl)
 simpa using this

end

section
variable {P:Program} {ops:Array Oper} {hp:List HObj} {o:Oper} {fr:List Dat} {d:Dat} {Q:ZAW} {rest:List Oper}
variable {dst:Option Tmp} {ty:TypeId} {ps:String} {af:Array Edge} {g:Option (Nat × Bool)}
section
variable {T T2:TypeId} (V:VxT P T) {x y:Operand} {p q:Int × Int}
include V
theorem SY.fld0 (hx:OpD fr x (dP 2 true (dS RV p))):SY P ops hp ⟨dst,.fieldAddr T x 0,ty,ps,af,g⟩ fr (dP 1 false (dI p.1)):=SY.val fun {I w a} ho=>by
 obtain ⟨b,off,u,h1,⟨hb,cs,k1,k0,k2,k3,k4⟩,h3⟩:=hx.get (by simp [Op.operands]) ho
 have hu:u = .agg #[.int .i64 p.1,.int .i64 p.2]:=h3
 simp only [if_true] at k4
 rw [k4] at hu
 have hcs:cs=[.int .i64 p.1,.int .i64 p.2]:=by injection hu with hu;exact List.toArray_inj hu
 subst hcs
 refine ⟨_,?_,b,off+0,.int .i64 p.1,rfl,⟨hb,[.int .i64 p.1],rfl,Nat.one_pos,by simp [Value.oneCell'],fun j c hc=>?_,rfl⟩,rfl⟩
 ·unfold execOp
  simp only [h1,Sem.run_bind,V.fld0,Result.andThen_ok,Sem.run_pure]
 ·have hj:j=0:=by have:=(List.getElem?_eq_some_iff.1 hc).1;simpa using this
  subst hj
  cases hc
  exact k3 0 _ rfl
theorem SY.fld1 (hx:OpD fr x (dP 2 true (dS RV p))):SY P ops hp ⟨dst,.fieldAddr T x 1,ty,ps,af,g⟩ fr (dP 1 false (dI p.2)):=SY.val fun {I w a} ho=>by
 obtain ⟨b,off,u,h1,⟨hb,cs,k1,k0,k2,k3,k4⟩,h3⟩:=hx.get (by simp [Op.operands]) ho
 have hu:u = .agg #[.int .i64 p.1,.int .i64 p.2]:=h3
 simp only [if_true] at k4
 rw [k4] at hu
 have hcs:cs=[.int .i64 p.1,.int .i64 p.2]:=by injection hu with hu;exact List.toArray_inj hu
 subst hcs
 refine ⟨_,?_,b,off+1,.int .i64 p.2,rfl,⟨hb,[.int .i64 p.2],rfl,Nat.one_pos,by simp [Value.oneCell'],fun j c hc=>?_,rfl⟩,rfl⟩
 ·unfold execOp
  simp only [h1,Sem.run_bind,V.fld1,Result.andThen_ok,Sem.run_pure]
 ·have hj:j=0:=by have:=(List.getElem?_eq_some_iff.1 hc).1;simpa using this
  subst hj
  cases hc
  exact k3 1 _ rfl
end
end

section
variable {P:Program} {ops:Array Oper} {hp:List HObj} {o:Oper} {fr:List Dat} {d:Dat} {Q:ZAW} {rest:List Oper}
variable {dst:Option Tmp} {ty:TypeId} {ps:String} {af:Array Edge} {g:Option (Nat × Bool)} {t e:TypeId} {n bytes:Nat} {z:Value} {ag:Bool}
theorem SY.build1' (E:ElT P t e 1 z bytes ag) {α:Type} {R:Rel α} {_gR:Good R} {len:Nat} {parts:Array (Nat × Operand)} {els:List α} (hx:ElsD fr R (parts.toList.map Prod.snd) els) (hparts:parts.toList=((parts.toList.map Prod.snd).zipIdx).map (fun p=>(p.2,p.1))) (hl:len=els.length) (hs:∀ a,(dS R a).Shape 1 false) (hsm:els.length*1≤16777216) :
  SY P ops hp ⟨dst,.buildSlice t len parts,ty,ps,af,g⟩ fr (dS (Arr R) els):=SY.build1 E hx hparts hl hs hsm
end

open Go.RowKit
def ZMm (P:Program) {α:Type} (A:α->List Dat) (r:α->Dat):Dat where
 rd:=fun I w v=>∃ f cap,v = .func (.func f) #[] cap/\ZAn P f/\∀ w',(∀ k,I k->k<w.heap.size->w'.heap[k]?=w.heap[k]?)->∀ (x:α) (I':Nat->Prop) (vs:List Value),vs.length=(A x).length->(∀ (i:Nat) (d:Dat),(A x)[i]?=some d->d.rd I' w' (vs.getD i undef)) ->
  Calls P f (vs.toArray++cap) w' fun e w''=>∃ u,e = .returned u/\Ext w' w''/\(r x).rd (fun b=>I' b\/w'.heap.size≤b) w'' u
 weak:=fun ⟨f,cap,h1,h0,h2⟩ q=>⟨f,cap,h1,h0,fun w' hw'=>h2 w' fun k hk=>hw' k (q k hk)⟩
 move:=fun {P w w2 v} ⟨f,cap,h1,h0,h2⟩ q=>⟨f,cap,h1,h0,fun w' hw'=>h2 w' fun k hk hlt=>by
  have h3:=q k hk hlt
  have hlt2:k<w2.heap.size:=by
   have:(w2.heap[k]?).isSome=true:=by rw [h3];simp [hlt]
   exact (Array.getElem?_eq_some_iff.1 (Option.isSome_iff_exists.1 this).choose_spec).1
  exact (hw' k hk hlt2).trans h3⟩
 bound:=fun ⟨f,cap,h1,h0,h2⟩=>⟨f,cap,h1,h0,fun w' hw'=>h2 w' fun k hk hlt=>hw' k ⟨hk,hlt⟩ hlt⟩
section
variable {P:Program} {ops:Array Oper} {hp:List HObj} {o:Oper} {fr:List Dat} {d:Dat} {dst:Option Tmp} {ty:TypeId} {ps:String} {af:Array Edge} {g:Option (Nat × Bool)}
theorem ZGY {f:FuncId} {α:Type} {A:α->List Dat} {r:α->Dat} (he:ZAn P f) (h:∀ x,Fn P f (A x) (r x)):(dX (.func (.func f) #[] #[])).le (ZMm P A r):=fun I w v hv=>by
 cases (hv:_=_)
 refine ⟨f,#[],rfl,he,fun w' _ x I' vs hl hr=>?_⟩
 have:=(h x).out I' w' vs hl hr
 simpa using this
theorem ZBd {t:Tmp} {args:Array Operand} {ats:Array TypeId} {α:Type} {A:α->List Dat} {r:α->Dat} {x:α} (ht:OpD fr (.tmp t) (ZMm P A r)) (ha:ArgsD fr args.toList (A x)) :
  SY P ops hp ⟨dst,.call { callee:=.value (.tmp t),args:=args,argTypes:=ats },ty,ps,af,g⟩ fr (r x):=SY.mk fun {P0 B w0 w a} hh ho K Q hk=>by
 obtain ⟨f,cap,h1,h0,h2⟩:=ht.get (by simp [Op.operands,Call.operands]) ho
 have h3:=h2 w (fun _ _ _=>rfl) x (Imm P0 B hp) (args.toList.map a.eval) (by simpa using ha.1) fun i d hd=>by
  have hi:i<args.toList.length:=by rw [ha.1];exact (List.getElem?_eq_some_iff.1 hd).1
  have h2:=ha.2 i _ d (List.getElem?_eq_getElem hi) hd
  have:=h2.get (by simp only [Op.operands,Call.operands];simp) ho
  have hi':i<args.size:=by simpa using hi
  simpa [List.getD,hi'] using this
 have he:(args.toList.map a.eval).toArray=args.map a.eval:=by apply Array.ext';simp
 rw [he] at h3
 unfold Oper.wp
 have h4:=h0 (args.map a.eval++cap) w
 have:(execOp a.eval ⟨dst,.call { callee:=.value (.tmp t),args:=args,argTypes:=ats },ty,ps,af,g⟩).run P w = .ok (.enter f (args.map a.eval++cap)) w:=by
  unfold execOp
  simp only [resolve]
  simp [h1,Deferred.ofValue,invoke,h4]
 rw [this]
 exact h3.mono fun e w' ⟨v,he,e1,hd⟩=>by subst he;exact hk v w' e1 ((r x).weak hd fun k hk=>hk.elim id hh.fresh)
end

end
end Go.Proofs.YtekiljakcngcoaaGreatDoor.M
