/- Part 23 of the proof. -/
import Derived.Test.YtofkoleingbbpaaGreatDoorZa22
set_option linter.all false
set_option maxRecDepth 100000
set_option maxHeartbeats 64000000
namespace Go.Proofs.YtofkoleingbbpaaGreatDoor
section
open Go.RowKit
theorem ZLi (t:Array Value) (E D:List Deferred) (x:Option Tmp) (v:Value):(⟨t,E⟩:Act).put x v=⟨((⟨t,E⟩:Act).put x v).tmps,E⟩/\(⟨t,E++D⟩:Act).put x v=⟨((⟨t,E⟩:Act).put x v).tmps,E++D⟩:=by cases x <;> exact⟨rfl,rfl⟩
theorem ZR4 {P:Program} {o:Oper} {K K':Act->World->Prop} {Q Q':Exit->Act->World->Prop} {D:List Deferred} (hK:∀t E w,K ⟨t,E⟩ w->K' ⟨t,E++D⟩ w) (hQ:∀e t E w,Q e ⟨t,E⟩ w->Q' e ⟨t,E++D⟩ w) {t:Array Value} {E:List Deferred} {w:World} (h:o.wp P ⟨t,E⟩ w K Q):o.wp P ⟨t,E++D⟩ w K' Q':=by
 unfold Oper.wp at h ⊢;have he:(⟨t,E++D⟩:Act).eval=(⟨t,E⟩:Act).eval:=funext fun x=>by cases x <;> rfl
 rw[he];have hk:∀v w',K ((⟨t,E⟩:Act).put o.dst v) w'->K' ((⟨t,E++D⟩:Act).put o.dst v) w':=fun v w' hh=>by
  obtain⟨e1,e2⟩:=ZLi t E D o.dst v;rw[e2];rw[e1] at hh;exact hK _ _ _ hh
 have hl:LetsOut Q->LetsOut Q':=fun⟨⟨t',E'⟩,w',hh⟩=>⟨⟨t',E'++D⟩,w',hQ _ _ _ _ hh⟩
 revert h
 generalize (execOp (⟨t,E⟩:Act).eval o).run P w=r;intro h
 match r,h with
 | .ok (.value v) w',h=>exact hk _ _ h
 | .ok .skip w',h=>exact hk _ _ h
 | .ok (.defer d) w',h =>
  show K' ((⟨t,d::(E++D)⟩:Act).put o.dst undef) w';have hh:K ((⟨t,d::E⟩:Act).put o.dst undef) w':=h;obtain⟨e1,e2⟩:=ZLi t (d::E) D o.dst undef;rw[show d::(E++D)=(d::E)++D from rfl,e2];rw[e1] at hh;exact hK _ _ _ hh
 | .ok (.enter f args) w',h =>
  refine Calls.mono (h:Calls P f args w' _) fun e w'' hh=>?_
  match e,hh with
  | .returned v,hh=>exact hk _ _ hh
  | .panicked ch,hh=>exact hQ _ _ _ _ hh
  | .outgrown,hh=>exact hl hh
 | .ok (.row row args) w',h=>exact Go.Rows.mono h fun v w'' hh=>hk _ _ hh
 | .halt (.panic v) w',h=>exact hQ _ _ _ _ h
theorem ZIE {P:Program} {ops:Array Oper} {Q Q':Exit->Act->World->Prop} {D:List Deferred} (hQ:∀e t E w,Q e ⟨t,E⟩ w->Q' e ⟨t,E++D⟩ w):∀(rest:List Oper) (t:Array Value) (E:List Deferred) (w:World),wpList P ops Q rest ⟨t,E⟩ w->wpList P ops Q' rest ⟨t,E++D⟩ w
 | [],t,E,w,h=>hQ _ _ _ _ h
 | o::rest,t,E,w,h=>by
  have ih:=ZIE (P:=P) (ops:=ops) (Q:=Q) (Q':=Q') (D:=D) hQ rest;unfold wpList at h ⊢;split at h
  ·rename_i hw;rw[if_pos hw];rcases h with h|⟨h1,h2⟩
   ·exact .inl (ZR4 (fun t E w=>ih t E w) hQ h)
   ·refine .inr ⟨?_,?_⟩
    ·have he:(⟨t,E++D⟩:Act).eval=(⟨t,E⟩:Act).eval:=funext fun x=>by cases x <;> rfl
     unfold Oper.asks at h1 ⊢;rw[he];exact h1
    ·obtain⟨⟨t',E'⟩,w',hh⟩:=h2;exact⟨⟨t',E'++D⟩,w',hQ _ _ _ _ hh⟩
  ·rename_i hw;rw[if_neg hw];obtain⟨e1,e2⟩:=ZLi t E D o.dst undef;rw[e2];rw[e1] at h;exact ih _ _ _ h
def ZTy (D:List Deferred) (Q:Z4) (P0:Nat->Prop) (B:Nat) (w0:World):Exit->Act->World->Prop:=fun e a w=>a.defers=D/\ZCs Q P0 B w0 e { tmps:=a.tmps,defers:=[] } w
structure WX (P:Program) (D:List Deferred) (Q:Z4) (c:Code) (fr:List Dat) (hp:List HObj):Prop where
 of ::
 out:∀(P0:Nat->Prop) (B:Nat) (w0 w:World) (a:Act),a.defers=D->Hp P0 B w0 hp w->Fr (Imm P0 B hp) w { tmps:=a.tmps,defers:=[] } fr->c.wp P (ZTy D Q P0 B w0) a w
section
variable {P:Program} {D:List Deferred} {Q:Z4} {fr fr':List Dat} {hp:List HObj}
theorem WX.id {c:Code} (h:WX P D Q c fr hp):WX P D Q c fr hp:=h
theorem WX.region {id:Nat} {l:List Oper} (h:WL P l.toArray Q l fr hp):WX P D Q (.region id l.toArray false) fr hp:=WX.of fun P0 B w0 w a hd hh hf=>by
 have:=ZIE (Q':=ZTy D Q P0 B w0) (D:=D) (fun e t E w hq=>by
  obtain⟨f,p,q,r,s⟩:=hq;have hE:E=[]:=s.defers;subst hE;exact⟨rfl,f,p,q,r,s⟩) l a.tmps [] w (h.on hh hf)
 rw[List.nil_append] at this;have ha:a=⟨a.tmps,D⟩:=by cases a;cases hd;rfl
 rw[ha];exact wp_region_lit this
theorem WX.mono {Q':Z4} {c:Code} (h:WX P D Q c fr hp) (k:∀e f p,Q e f p->Q' e f p):WX P D Q' c fr hp:=WX.of fun _ _ _ _ _ hd hh hf=>Code.wp_mono (fun _ _ _ ⟨x,f,p,q,r⟩=>⟨x,f,p,k _ _ _ q,r⟩) (h.out _ _ _ _ _ hd hh hf)
theorem WX.seq {x y:Code} (h:WX P D (ThenD (WX P D Q y) Q) x fr hp):WX P D Q (.seq x y) fr hp:=WX.of fun P0 B w0 w a hd hh hf=>wp_seq (Code.wp_mono (fun e a' w' ⟨z,f,p,q,r,s⟩=>by
 cases e with
 | normal=>exact(q:WX P D Q y f p).out _ _ _ _ _ z r s
 | _=>exact⟨z,f,p,q,r,s⟩) (h.out _ _ _ _ _ hd hh hf))
theorem ZDS {x y:Code} (h:∀K:List Dat->List HObj->Prop,(∀f p,WX P D Q y f p->Kont K f p)->WX P D (ThenD (Kont K) Q) x fr hp):WX P D Q (.seq x y) fr hp :=
 WX.seq ((h (WX P D Q y) fun _ _ h=>⟨h⟩).mono fun e f p q=>by
  cases e with
  | normal=>exact(q:Kont _ f p).out
  | _=>exact q)
theorem WX.skip (h:Q .normal fr hp):WX P D Q .skip fr hp:=WX.of fun _ _ _ _ _ hd hh hf=>wp_skip ⟨hd,fr,hp,h,hh,hf⟩
theorem WX.ret (h:Q .ret fr hp):WX P D Q .ret fr hp:=WX.of fun _ _ _ _ _ hd hh hf=>wp_ret ⟨hd,fr,hp,h,hh,hf⟩
theorem WX.exit {id:Nat} (h:Q (.exit id) fr hp):WX P D Q (.exit id) fr hp:=WX.of fun _ _ _ _ _ hd hh hf=>wp_exit ⟨hd,fr,hp,h,hh,hf⟩
theorem WX.block {id:Nat} {c:Code} (h:WX P D (InBlockD id Q) c fr hp):WX P D Q (.block id c) fr hp:=WX.of fun P0 B w0 w a hd hh hf=>wp_block (Code.wp_mono (fun e a' w' ⟨z,f,p,q,r,s⟩=>by
 cases e with
 | exit id' =>
  simp only[Exit.inBlock];simp only[InBlockD] at q;split
  ·rename_i hi;rw[if_pos hi] at q;exact⟨z,f,p,q,r,s⟩
  ·rename_i hi;rw[if_neg hi] at q;exact⟨z,f,p,q,r,s⟩
 | _=>exact⟨z,f,p,q,r,s⟩) (h.out _ _ _ _ _ hd hh hf))
theorem WX.weak {c:Code} (h:WX P D Q c fr' hp) (hl:fr.length=fr'.length) (k:∀(t:Nat) (d:Dat),fr'[t]?=some d->∃d0:Dat,fr[t]?=some d0/\d0.le d):WX P D Q c fr hp:=WX.of fun _ _ _ _ _ hd hh hf=>h.out _ _ _ _ _ hd hh (hf.weak hl k)
section
variable {c:Operand} {x y:Code} {p:Prop} {_ip:Decidable p} {b:Bool}
theorem WX.cond (hc:OpD fr c (dB b)) (ht:b=true->WX P D Q x fr hp) (hf:b=false->WX P D Q y fr hp):WX P D Q (.cond c x y) fr hp:=WX.of fun P0 B w0 w a hd hh hfr=>by
 have h1:=hc.ev hfr;have h2:a.eval c=({ tmps:=a.tmps,defers:=[] }:Act).eval c:=by cases c <;> rfl
 exact wp_cond_split (t:=b) (by rw[h2];exact h1) (fun h=>(ht h).out _ _ _ _ _ hd hh hfr) (fun h=>(hf h).out _ _ _ _ _ hd hh hfr)
theorem ZRR (hc:OpD fr c (dB b)) (hb:b=true) (h:WX P D Q x fr hp):WX P D Q (.cond c x y) fr hp:=WX.cond hc (fun _=>h) (fun h=>by rw[hb] at h;cases h)
theorem ZRQ (hc:OpD fr c (dB b)) (hb:b=false) (h:WX P D Q y fr hp):WX P D Q (.cond c x y) fr hp:=WX.cond hc (fun h=>by rw[hb] at h;cases h) (fun _=>h)
theorem ZB6 (hc:OpD fr c (dB (decide p))) (ht:p->WX P D Q x fr hp) (hf:¬ p->WX P D Q y fr hp):WX P D Q (.cond c x y) fr hp:=WX.cond hc (fun h=>ht (of_decide_eq_true h)) (fun h=>hf (of_decide_eq_false h))
theorem ZJn (hc:OpD fr c (dB (!b))) (ht:b=false->WX P D Q x fr hp) (hf:b=true->WX P D Q y fr hp):WX P D Q (.cond c x y) fr hp:=WX.cond hc (fun h=>ht (by simpa using h)) (fun h=>hf (by simpa using h))
end
theorem WX.loopU {X:Type} {c:Code} (ups:X->List (Nat × Dat)) (H:X->List HObj) (μ:X->Nat) (p:X->Prop) (x0:X) (h0:p x0) (hF:LeF fr (ZH fr (ups x0))) (hH:hp=H x0)
  (round:∀x,p x->WX P D (ThenD (fun f q=>∃x',p x'/\μ x'<μ x/\q=H x'/\LeF f (ZH fr (ups x'))) Q) c (ZH fr (ups x)) (H x)):WX P D Q (.loop c) fr hp:=by
 refine WX.of fun P0 B w0 w a hd hh hf=>?_;have hf1:=hf.weak hF.out.1 hF.out.2;subst hH;intro b k cs;have key:∀(n:Nat) (x:X) (a':Act) (w':World),μ x=n->p x->a'.defers=D->Hp P0 B w0 (H x) w'->Fr (Imm P0 B (H x)) w' { tmps:=a'.tmps,defers:=[] } (ZH fr (ups x)) ->
   ∃e a2 w2,ZTy D Q P0 B w0 e a2 w2/\Arrives P (lone (b.at a' (.code c :: .inLoop c::k)) cs w') b k cs e a2 w2:=by
  intro n;induction n using Nat.strongRecOn with
  | _ n ih =>
   intro x a' w' hn hp' hd' hh' hf';obtain⟨e,a1,w1,hq,harr⟩:=(round x hp').out _ _ _ _ _ hd' hh' hf' b (.inLoop c::k) cs;cases e with
   | normal =>
    obtain⟨z,f,q,hq,h1,h2⟩:=hq;obtain⟨x',px,hlt,rfl,hle⟩:=(hq:∃x',_);obtain⟨e2,a2,w2,hq2,harr2⟩:=ih (μ x') (hn ▸ hlt) x' a1 w1 rfl px z h1 (h2.weak hle.out.1 hle.out.2);exact⟨e2,a2,w2,hq2,.of_steps (Steps.trans harr (.one step_inLoop)) harr2⟩
   | exit id=>exact⟨_,a1,w1,hq,.pass (x:=.inLoop c) rfl (fun _ _=>.inl (by simp)) harr⟩
   | goto l=>exact⟨_,a1,w1,hq,.pass (x:=.inLoop c) rfl (fun _ _=>.inl (by simp)) harr⟩
   | ret=>exact⟨_,a1,w1,hq,.pass (x:=.inLoop c) rfl (fun _ _=>.inl (by simp)) harr⟩
   | panic ch=>exact⟨_,a1,w1,hq,.pass (x:=.inLoop c) rfl (fun _ _=>.inl (by simp)) harr⟩
   | outgrown=>exact⟨_,a1,w1,hq,.pass (x:=.inLoop c) rfl (fun _ _=>.inl (by simp)) harr⟩
 obtain⟨e,a',w',hq,harr⟩:=key _ x0 a w rfl h0 hd hh hf1;exact⟨e,a',w',hq,.of_steps (.one step_loop) harr⟩
theorem ZGh {c:Code} (h:WL P #[] (fun e f p=>e = .normal/\WX P D Q c f p) [] fr hp):WX P D Q c fr hp:=WX.of fun P0 B w0 w a hd hh hf=>by
 obtain⟨f,p,⟨_,q⟩,r,s⟩:=(h.on hh hf:ZCs _ P0 B w0 .normal _ w);have h1:=q.out P0 B w0 w a hd r s;exact h1
end
end
section
open Go.RowKit
open C34

variable {S:Prop}
theorem ZKr {l:Cx} (h:(ZBf l).2=0) {k:Nat} (h1:1≤k):(k:Int)≤8->(ZCR l (k:Int)).1.length≤1000000:=fun h8=>by
 have h4:=(ZBI h).2 k h1 (by omega);unfold ZCR;rw[if_neg (by simpa using(ZBI h).1),if_neg (by omega),Int.toNat_natCast,if_neg (by omega)];simp only;omega
theorem ZP1 {α:Type} {lv:List α}:plc 0 lv (fun _=>true)=(List.range lv.length).map fun i:Nat=>(i:Int):=by
 unfold plc;rw[List.filter_eq_self.2 fun j hj=>by
  rw[List.getElem?_eq_getElem (List.mem_range.1 hj)]]
 exact List.map_congr_left fun j _=>by simp
theorem ZUu {P:Program} {QR:Exit->Act->World->Prop} {P0:Nat->Prop} {B:Nat} {w0:World} {ds:List Deferred} {Q:Z4} {c:Code} {fr:List Dat} {hp:List HObj} (h:WX P ds Q c fr hp) (k:∀e f p,Q e f p->WK (QR e) P0 B w0 ds f p):WY P QR P0 B w0 ds c fr hp:=WK.of fun a w ha hh hf=>Code.wp_mono (fun e a' w' ⟨hd,f,p,q,r,s⟩=>(k e f p q).out a' w' hd r s) (h.out P0 B w0 w a ha hh hf)
theorem ZUE {u x s r:HObj} {q:List HObj}:(u::x::s::r::q).Perm (r::s::u::x::q) :=
 (List.perm_middle (l₁:=[u,x,s]) (a:=r) (l₂:=q)).trans (List.Perm.cons r (List.perm_middle (l₁:=[u,x]) (a:=s) (l₂:=q)))
theorem ZUF {m r s u x t:HObj} {q:List HObj}:(m::r::s::u::x::t::q).Perm (s::r::u::x::t::m::q) :=
 ((List.perm_middle (l₁:=[r,s,u,x,t]) (a:=m) (l₂:=q)).symm).trans (List.Perm.swap _ _ _)
theorem ZDP {P:Program} {ops:Array Oper} {hp:List HObj} {o:Oper} {fr:List Dat} {b:Bool} (h:SY P ops hp o fr (dX (.bool b))):SY P ops hp o fr (dB b):=h
def certH (bm n:Nat) (fst:List Int) (pre:List (List Int)) (hs:List HObj):Prop:=∃v,hs=[Zk v 23 ZAQ (fst::pre),ZAV bm 105 [dI (n:Int),dX v]]
theorem ZJi {P:Program} {ops:Array Oper} {hp:List HObj} {fr:List Dat} {Q:Z4} {rest:List Oper} {b:Nat} {T:TypeId} {ds:List Dat} {n t:Nat} (hp0:fr[t]?=some (dX (.pointer (some ⟨b,0,none⟩)))) (hn:0<n) (hl:ds.length=n) (h:WL P ops Q rest (fr.set t (dP n true (ZEN ds))) hp):WL P ops Q rest fr (ZAV b T ds::hp):=by
 refine WL.of fun P0 B w0 w a hh hf=>?_;obtain⟨cs,c1,c2,c3,c4⟩:=hh.ok (ZAV b T ds) (by simp);have hown:=hh.own (ZAV b T ds) (by simp) b rfl;refine h.on hh.drop ⟨hf.defers,by rw[hf.size,List.length_set],fun t' d' hd'=>?_⟩;by_cases htt:t=t'
 ·subst htt;rw[List.getElem?_set] at hd';simp only[if_true] at hd';split at hd'
  ·cases hd';have hv:a.tmps.getD t undef = .pointer (some ⟨b,0,none⟩):=hf.rd t _ hp0;rw[hv];refine⟨b,0,.agg cs.toArray,rfl,⟨⟨.inr hown.1,fun o' ho' hk=>(List.pairwise_cons.1 hh.apart).1 o' ho' b rfl hk⟩,cs,by omega,hn,c3,fun j c hc=>?_,rfl⟩,cs,rfl,c2,c3,fun k c d hc hd=>d.weak (c4 k c d hc hd) ZWZ⟩;simp[World.cell?,c1,hc]
  ·cases hd'
 ·rw[List.getElem?_set_ne htt] at hd';exact d'.weak (hf.rd t' d' hd') ZWZ
theorem ZNE {P0:Nat->Prop} {B:Nat} {w0 w w':World} {hp:List HObj} {f:List Dat} {d6:Dat} {R:Option (List Cx)} {k:Nat} {a:Act} (h6:f[6]?=some d6) (h6l:d6.le (dS ZFw (R.getD []))) (h7:f[7]?=some (dB R.isSome)) (h8:f[8]?=some (dI 0)) (hf2:Fr (Imm P0 B (ZHg k::hp)) w (actZ a) f) (hh':Hp P0 B w0 hp w') (hd':∀(d:Dat) (v:Value),d.rd (Imm P0 B (List.map ZHg [k]++hp)) w v->d.rd (Imm P0 B hp) w' v) :
  LeavesInM Fence.wide 0 Tryz.prog Tryz.f23 a.tmps (fun e W'=>∃v d hp2,e = .returned v/\(d=dT [dS ZFw (R.getD []),dB R.isSome,dI 0]/\hp2=[])/\Hp P0 B w0 (hp2++hp) W'/\d.rd (Imm P0 B (hp2++hp)) W' v) [] .returning w':=by
 refine⟨_,ZFB rfl _ _,_,_,[],rfl,⟨rfl,rfl⟩,hh',[a.tmps.getD 6 undef,a.tmps.getD 7 undef,a.tmps.getD 8 undef],rfl,rfl,fun j e x he hx=>?_⟩
 match j,he,hx with
 | 0,he,hx=>cases he;cases hx;exact hd' _ _ (h6l _ _ _ (hf2.rd 6 d6 h6))
 | 1,he,hx=>cases he;cases hx;exact hd' _ _ (hf2.rd 7 _ h7)
 | 2,he,hx=>cases he;cases hx;exact hd' _ _ (hf2.rd 8 _ h8)
theorem ZRc (l:Cx) (vs:List Vx) (A:List Int) (d:Nat) (h:ZCD l vs A=0) (hd:d<8) (hF:ZF8 l≤400) (hS:S->ZEr l) (hne:l≠[]\/S):CallC Tryz.prog 23 ([dS (ZSj S) l,dS Lab (vs,A),dI (d:Int)]++([]:List Value).map dX) [] (fun d' hp2=>d'=dT [dS ZFw ((ZFU l (Zc vs A) (d+1)).getD []),dB (ZFU l (Zc vs A) (d+1)).isSome,dI 0]/\hp2=[]):=⟨fun P0 B w0 hp ws W hh hl0 hv=>by
 refine(callsIn_wide (n:=0)).1 (callsIn_of_wp_marks Tryz.func23 rfl trivial ?_ rfl);refine wpIn_wide.2 ?_;have hf0:=ZCA (m:=159) hl0 hv;have hsz:ws.toArray.size=3:=by simpa using hl0
 rw[hsz];have hnt:Tryz.f23.ntmps=162:=rfl;rw[hnt];simp only[List.length_cons,List.length_nil,Nat.reduceAdd,Nat.reduceSub,List.replicate_succ,List.replicate_zero,List.cons_append,List.nil_append,List.map_nil,List.map_cons] at hf0 hh ⊢;have cB:=ZGG l vs A h;have heul:=ZD7 h;have hck:=(ZAX.1 (ZBI heul).1).2.2.1;obtain⟨f,hf⟩:∃f,Zc vs A=f:=⟨_,rfl⟩;rw[hf] at cB ⊢;obtain⟨R,hR⟩:∃R,ZFU l f (d+1)=R:=⟨_,rfl⟩;rw[hR];refine(?_:WY Tryz.prog _ P0 B w0 [] _ _ hp).out _ W rfl hh hf0;refine ZCe fun Kx hK=>?_;refine ZSl (S:=S) 0 rfl (fun P w v hv=>?_) ?_
 ·rcases hne with hne|hs
  ·exact ZSz hne (fun s hs e=>(Zi.1 (hck s hs)).1 (by rw[e];rfl)) hv
  ·exact .inr hs
 ((repeat' (first|refine zS ?_|(refine hK _ _ ?_;clear hK)|((first|apply ZF|apply WD.op);(focus (first|exact wN|(apply ZVt;exact wY;((first|(exact ZV3 (ZVh rfl) (fun I w v h=>ZAL I w v (ZCW I w v h)))|exact yG|fail);all_goals infer_instance))));dsimp only[ZC,z0,z1])));all_goals ((repeat clear hK);repeat clear Kx))
 refine ZCe fun Kx hK=>?_;((repeat' (first|(apply zV;exact yF;exact zQ)|refine ZVj ?_|(refine hK _ _ ?_;clear hK)|refine ZVk ?_ |  (refine ZWF (dst:=some 9) ZFI (Zj rfl rfl) fun b9=>?_;dsimp only[ZC,z0,z1]) |  (refine ZR ZBx rfl (ZVh rfl) (ZAD (n:=2) (by decide) rfl) ?_;dsimp only[ZC,z0,z1])|((first|apply ZF|apply WD.op);(focus (first|exact wN|(apply ZVt;exact wY;((first|(apply ZVy;exact ZAz;exact ZVh rfl)|(apply ZVm cB Tryz.call57;exact ZV9 (ZWD rfl ZCW) (ZV9 (ZVh rfl) ZWJ))|exact yG|fail);all_goals infer_instance))));dsimp only[ZC,z0,z1])));all_goals ((repeat clear hK);repeat clear Kx))
 all_goals try exact xO
 refine ZCe fun Kx hK=>?_;((repeat' (first|refine zS ?_|refine ZA fun Kx hK=>?_|(refine hK _ _ ?_;clear hK)|((first|apply ZF|apply WD.op);(focus (first|exact wN|(apply ZVt;exact wY;((first|exact yG|fail);all_goals infer_instance))));dsimp only[ZC,z0,z1])|(apply ZG;exact oD;all_goals (intro h;try exact xD))|refine ZVr ?_));all_goals ((repeat clear hK);repeat clear Kx))
 all_goals try exact xO
 refine ZCe fun Kx hK=>?_;((repeat' (first|refine zS ?_|refine ZA fun Kx hK=>?_|(refine hK _ _ ?_;clear hK)|((first|apply ZF|apply WD.op);(focus (first|exact wN|(apply ZVt;exact wY;((first|exact yG|fail);all_goals infer_instance))));dsimp only[ZC,z0,z1])|((first|refine ZM rfl rfl rfl (fun h=>?_) (fun h=>?_)|refine ZL rfl rfl rfl (fun h=>?_) (fun h=>?_)|refine ZK rfl rfl rfl (fun h=>?_) (fun h=>?_)|refine Za rfl rfl rfl (fun h=>?_) (fun h=>?_)|refine ZX rfl rfl rfl (fun h=>?_) (fun h=>?_)|refine ZV rfl rfl rfl (fun h=>?_) (fun h=>?_)) <;> (first|(exfalso;first|omega|contradiction)|(dsimp only[z0,z1])))|(apply ZB;exact oD;all_goals (intro h;try exact xD))|refine ZVr ?_));all_goals ((repeat clear hK);repeat clear Kx))
 all_goals try exact xO
 refine ZCe fun Kx hK=>?_;((repeat' (first|(apply zV;exact yF;exact zQ)|refine ZVj ?_|(refine hK _ _ ?_;clear hK)|refine ZVk ?_ |  (refine ZTU (ZVh rfl) (by decide) fun bu=>?_;dsimp only[ZC,z0,z1])|((first|apply ZF|apply WD.op);(focus (first|exact wN|(apply ZVt;exact wY;((first|exact ZOG|fail);all_goals infer_instance))));dsimp only[ZC,z0,z1])));all_goals ((repeat clear hK);repeat clear Kx))
 all_goals try exact xO
 refine ZCe fun Kx hK=>?_;refine Zn 145 (ZF4 kvS RI) (Zn 27 (ZA5 S) ?_);refine ZWe ZUG ?_;(repeat' (first|refine zS ?_|refine ZA fun Kx hK=>?_|(refine hK _ _ ?_;clear hK)|((first|apply ZF|apply WD.op);(focus (first|exact wN|(apply ZVt;exact wY;((first|((first|apply ZV2) <;> first|exact oD|omega)|fail);all_goals infer_instance))));dsimp only[ZC,z0,z1])|refine ZVp ?_))
 all_goals try exact xO
 (refine ZV4 (X:=Nat × Value × Value) (fun x=>[(49,dI (x.1:Int)),(12,dA),(50,dA),(51,dA),(52,dA),(53,dA),(54,dA),(55,dA),(56,dA),(57,dA),(58,dA),(59,dA),(60,dA),(61,dA)]) (fun x=>(ZVb S bu x.2.1 x.2.2 (ZAk l f x.1) (ZCi (ZAk l f x.1)) (ZAj (ZAk l f x.1) x.1)++(ZIj S::hp))) (fun x=>d+1-x.1) (fun x=>x.1≤d+1) (0,.slice none 0 0,.slice none 0 0) ?start ?frame0 ?objs0 ?round)
 case start=>exact Nat.zero_le _
 case frame0=>exact zFr
 case objs0=>rfl
 case round =>
  rintro⟨k,vL,vN⟩ hk;simp only at hk;dsimp only[ZH,z0,z1];by_cases hkl:k<d+1
  ·have hkI:(k:Int)<(d:Int)+1:=by omega
   have cP:=ZKZ l f (k:Int) ⟨by omega,by omega⟩;have hk1:(k:Int)+1=((k+1:Nat):Int):=by omega
   have hlen:(ZCk l ((k+1:Nat):Int) (ZAg f (k:Int))).length≤400:=Nat.le_trans (ZDc heul (by omega) (by omega)) hF;have hnd:(ZCk l ((k+1:Nat):Int) (ZAg f (k:Int))).Nodup:=ZQT heul (by omega) (by omega);have hch:∀s∈ZCk l ((k+1:Nat):Int) (ZAg f (k:Int)),ZAC s=0:=fun s hs=>(ZEl heul (by omega) (by omega) hs).1;have hsm:S->∀s∈ZCk l ((k+1:Nat):Int) (ZAg f (k:Int)),∀v∈s,v.1<100/\v.2<100:=fun q s hs=>ZEK heul (by omega) (by omega) hS hs q;have cS:=ZJG l f ((k+1:Nat):Int) (ZAg f (k:Int)) (ZKr heul (by omega));have hsn:=ZPe (l:=l) (f:=f) (d:=k);have hof:=ZKV (f:=f) heul (d:=k) (by omega) k (Nat.le_refl _);have hoff:ZAj (ZAk l f k) k≤100000:=by
    have h2:ZF8 l*k≤400*8:=Nat.mul_le_mul hF (by omega);omega
   rw[<- hk1] at hlen hnd hch hsm cS;generalize ZCk l ((k:Int)+1) (ZAg f (k:Int))=lv at *;have hLk:=ZAO (l:=l) (f:=f) (d:=k);have e1:ZCi (ZAk l f (k+1))=ZCi (ZAk l f k)++[ZFK txS (ZAj (ZAk l f k) k) lv]:=by rw[hsn,ZNb,hLk]
   have e2:ZAj (ZAk l f (k+1)) (k+1)=ZAj (ZAk l f k) k+lv.length:=by
    have:=ZR2 (L:=ZAk l f k) (lv:=lv);rw[hLk] at this;rw[hsn,this]
   have hMl:(ZCi (ZAk l f k)).length≤100:=by simp[ZCi,hLk];omega
   have cN:=ZNa (S:=S) bu (ZAj (ZAk l f k) k) (ZAk l f k) (ZCi (ZAk l f k)) vL vN lv hoff (by omega) (by omega) hMl hnd hch hsm;((repeat' (first |  (apply ZWk (id:=10) 8;kernel_rfl;kernel_rfl;simp only[List.take_succ_cons,List.take_zero,List.drop_succ_cons,List.drop_zero])|((first|apply ZVi|apply ZVl);exact yF;dsimp only[ZC,z0,z1])|refine ZVj ?_|refine WD.nil ?_|refine ZA fun Kx hK=>?_|(refine hK _ _ ?_;clear hK)|refine ZVk ?_ |  (refine ZRI (d':=dS (ZA5 S) lv) 59 (mAt 3 rfl) rfl (fun _ _ _=>gain_S) (WL.callC (hp1:=ZVb S bu vL vN (ZAk l f k) (ZCi (ZAk l f k)) (ZAj (ZAk l f k) k)) (hp:=ZIj S::hp) (caps:=[]) cN Tryz.call58 ZWO (ZV9 (ZVh rfl) (ZV9 (ZVh rfl) ZWJ)) ?_);rintro d' hp2 ⟨vL',vN',rfl⟩;dsimp only[ZC,z0,z1,List.cons_append,List.nil_append])|((first|apply ZF|apply WD.op);(focus (first|exact wN|(apply ZVt;exact wY;((first|(apply ZVy;exact ZBx;exact ZVh rfl)|(apply ZVm (cP) Tryz.call60;exact aD)|(apply ZVm (cS) Tryz.call59;exact aD)|((first|apply ZVo|apply ZVn|apply ZVq|apply ZV6|apply ZWA|apply ZVv|apply ZVw) <;> exact oD)|((first|apply ZV2) <;> first|exact oD|omega)|fail);all_goals infer_instance))));dsimp only[ZC,z0,z1])|(apply ZB;exact oD;all_goals (intro h;try exact xD))|refine ZVr ?_|refine ZVp ?_|refine ZVx ?_));all_goals ((repeat clear hK);repeat clear Kx))
   all_goals try exact xO
   rw[<- hsn,<- e1,<- e2];(refine zNx (k+1,vL',vN') ?_;(try dsimp only))
   exact hkl
  ·have hkI:¬ (k:Int)<(d:Int)+1:=by omega
   obtain rfl:k=d+1:=by omega
   have hL:=ZGP (f:=f) heul (d:=d+1) (by omega);have hLl:=ZAO (l:=l) (f:=f) (d:=d+1);have hof:=ZKV (f:=f) heul (d:=d+1) (by omega) (d+1) (Nat.le_refl _);have hn8:ZAj (ZAk l f (d+1)) (d+1)≤3200:=by
    have h2:ZF8 l*(d+1)≤400*8:=Nat.mul_le_mul hF (by omega);omega
   have hl0:((ZAk l f (d+1)).getD 0 []).length≤400:=by
    rw[ZHD (by omega)];exact Nat.le_trans (ZDc (k:=0+1) heul (by omega) (by omega)) hF
   have hsolr:=fun x=>ZUS (f:=f) heul (d:=d+1) (by omega) (by omega) (x:=x);have hrl:=ZMp (f:=f) heul (d:=d+1) (by omega);have hrw:=ZI9 (f:=f) heul (d:=d+1) (by omega) (by omega);have hEq:=fun vu vx=>ZTk (S:=S) l f (d+1) (ZAj (ZAk l f (d+1)) (d+1)) (by omega) heul (by omega) hS vu vx;have hcert:ZFU l f (d+1)=(L05.solP (ZBb l f (ZAk l f (d+1))) [0] (ZAj (ZAk l f (d+1)) (d+1))).map (ZBL (ZAk l f (d+1))):=rfl;rw[hcert] at hR;obtain⟨n,hn⟩:∃n,ZAj (ZAk l f (d+1)) (d+1)=n:=⟨_,rfl⟩;rw[hn] at hn8 hsolr hrw hEq hR ⊢;have hrowsE:ZBb l f (ZAk l f (d+1))=plc 0 ((ZAk l f (d+1)).getD 0 []) (fun _=>true)::ZMK l f (ZAk l f (d+1)) d:=by
    unfold ZBb eqsP;rw[hLl];rfl
   obtain⟨L,hLe⟩:∃L,ZAk l f (d+1)=L:=⟨_,rfl⟩;rw[hLe] at hL hLl hl0 hsolr hrl hrw hEq hrowsE hn hR ⊢;have hL0:0<L.length:=by omega
   have el0:=ZF1 hL0;obtain⟨l0,hl0e⟩:∃l0,L.getD 0 []=l0:=⟨_,rfl⟩;rw[hl0e] at el0 hl0 hrowsE;have hpf:plc 0 l0 (fun _=>true)=(List.range l0.length).map fun i:Nat=>(i:Int):=ZP1;refine ZEs (k:=0) rfl (ZEs (k:=1) rfl (ZM3 (n:=3) (t:=11) rfl (by decide) rfl ?_));dsimp only[z0,z1];((repeat' (first|refine zT ?_|refine ZA fun Kx hK=>?_|(refine hK _ _ ?_;clear hK)|(refine ZV0 ?_;clear hK)|((first|apply ZF|apply WD.op);(focus (first|exact wN|(apply ZVt;exact wY;((first|exact yG|fail);all_goals infer_instance))));dsimp only[ZC,z0,z1])|(apply ZB;exact oD;all_goals (intro h;try exact xD))|refine ZV1 ?_));all_goals ((repeat clear hK);repeat clear Kx))
   all_goals try exact xO
   refine ZCe fun Kx hK=>?_;((repeat' (first|refine zS ?_|(refine hK _ _ ?_;clear hK)));all_goals ((repeat clear hK);repeat clear Kx))
   refine ZCe fun Kx hK=>?_;refine Zn 3 RI ?_;(repeat' (first|refine zS ?_|refine ZA fun Kx hK=>?_|(refine hK _ _ ?_;clear hK)|((first|apply ZF|apply WD.op);(focus (first|exact wN|(apply ZVt;exact wY;((first|(exact ZA4 (ZVh rfl))|(refine ZW ZCc (ZVh rfl) (ZWI _) rfl rfl)|(apply ZVy;exact ZUm;exact ZVh rfl)|(refine ZCK (D:=fun z=>dP 1 false (dS (ZA5 S) z)) el0 (ZV8 (R:=ZA5 S) (_gR:=inferInstance) (k:=0) ZAK (ZVh rfl) ZV5 hL0))|(apply ZVu;exact oD;exact nD;exact uD)|fail);all_goals infer_instance))));dsimp only[ZC,z0,z1])|refine ZVp ?_))
   all_goals try exact xO
   (refine ZV4 (X:=Nat × Value) (fun x=>[(69,dI (x.1:Int)),(13,dX x.2),(14,dA),(70,dA),(71,dA),(72,dA),(73,dA),(74,dA),(75,dA),(76,dA)]) (fun x=>(Zk x.2 3 RI ((List.range x.1).map fun i:Nat=>(i:Int))::ZIj S::hp)) (fun x=>l0.length-x.1) (fun x=>x.1≤l0.length) (0,.slice none 0 0) ?start ?frame0 ?objs0 ?round)
   case start=>exact Nat.zero_le _
   case frame0=>exact zFr
   case objs0=>rfl
   case round =>
    rintro⟨k,v⟩ hk;simp only at hk;dsimp only[ZH,z0,z1];by_cases hkl:k<l0.length
    ·have hkI:(k:Int)<(l0.length:Int):=by omega
     have hrs:((List.range (k+1)).map fun i:Nat=>(i:Int))=((List.range k).map fun i:Nat=>(i:Int))++[(k:Int)]:=by rw[List.range_succ,List.map_append];rfl
     have hrl0:((List.range k).map fun i:Nat=>(i:Int)).length=k:=by simp
     ((repeat' (first|(apply zV;exact yF;exact zQ)|refine ZVj ?_|refine ZA fun Kx hK=>?_|(refine hK _ _ ?_;clear hK)|refine ZVk ?_ |  (refine Zl elI (R:=RI) (_gR:=inferInstance) (ZVh rfl) (ZVh rfl) (fun _=>ZAS) (by simp) (by simp) (by decide) (by rw[hrl0];omega) fun v'=>?_;dsimp only[ZC,z0,z1])|((first|apply ZF|apply WD.op);(focus (first|exact wN|(apply ZVt;exact wY;((first|exact yG|fail);all_goals infer_instance))));dsimp only[ZC,z0,z1])|(apply ZB;exact oD;all_goals (intro h;try exact xD))|refine ZVr ?_|refine ZVp ?_|refine ZVx ?_));all_goals ((repeat clear hK);repeat clear Kx))
     all_goals try exact xO
     rw[<- hrs];(refine zNx (k+1,v') ?_;(try dsimp only))
     exact hkl
    ·have hkI:¬ (k:Int)<(l0.length:Int):=by omega
     obtain rfl:k=l0.length:=by omega
     rw[<- hpf];((repeat' (first|refine zT ?_|refine ZA fun Kx hK=>?_|(refine hK _ _ ?_;clear hK)|(refine ZV0 ?_;clear hK)|((first|apply ZF|apply WD.op);(focus (first|exact wN|(apply ZVt;exact wY;((first|exact yG|fail);all_goals infer_instance))));dsimp only[ZC,z0,z1])|(apply ZB;exact oD;all_goals (intro h;try exact xD))|refine ZV1 ?_));all_goals ((repeat clear hK);repeat clear Kx))
     all_goals try exact xO
     refine ZCe fun Kx hK=>?_;refine ZIM (s:=13) rfl ?_;dsimp only[z0,z1];((repeat' (first|(apply zV;exact yF;exact zQ)|refine ZVj ?_|(refine hK _ _ ?_;clear hK)|refine ZVk ?_ |  (refine ZRK (R:=ZAQ) (_gR:=inferInstance) (els:=[plc 0 l0 (fun _=>true)]) ZDj (Zp (ZVh rfl) Zr) rfl rfl (fun _=>ZAI) (Nat.le_of_ble_eq_true rfl) fun vR=>?_;dsimp only[ZC,z0,z1]) |  (refine ZC0 (dst:=some 15) (zs:=[.int .i64 0,.slice none 0 0]) ZN2 (by decide) (by simp[Value.oneCell']) fun bm=>?_;dsimp only[ZC,z0,z1,List.map_cons,List.map_nil]) |  (refine ZBs ZHn (ZVh rfl) (ZVh rfl) rfl rfl ?_;dsimp only[ZC,z0,z1])|((first|apply ZF|apply WD.op);(focus (first|exact wN|(apply ZVt;exact wY;((first|(exact ZA4 (ZVh rfl))|(refine ZW ZCc (ZVh rfl) (ZWI _) rfl rfl)|(exact ZOH (R:=ZAQ) (_gR:=inferInstance) (.head _) (ZVh rfl) (ZVh rfl))|fail);all_goals infer_instance))));dsimp only[ZC,z0,z1])));all_goals ((repeat clear hK);repeat clear Kx))
     all_goals try exact xO
     refine WY.seq ?_;refine ZCe fun Kx hK=>?_;((repeat' (first|(apply zV;exact yF;exact zQ)|refine ZVj ?_|(refine hK _ _ ?_;clear hK)|refine ZVk ?_ |  (refine WL.callC (hp1:=[]) (caps:=[]) (ZIc S l f L (ZCi L) n) Tryz.call61 ZWO (ZV9 (ZVh rfl) (ZV9 (ZVh rfl) ZWJ)) ?_;rintro d' hp2 ⟨vu,vx,rfl,rfl⟩;dsimp only[ZC,z0,z1,List.cons_append,List.nil_append])|((first|apply ZF|apply WD.op);(focus (first|exact wN|(apply ZVt;exact wY;((first|(apply ZVy;exact ZBx;exact ZVh rfl)|fail);all_goals infer_instance))));dsimp only[ZC,z0,z1])));all_goals ((repeat clear hK);repeat clear Kx))
     all_goals try exact xO
     refine WK.perm ZUE (WY.block ?_);have hEq2:=hEq vu vx;rw[show d+1-1=d from rfl] at hEq2;have hel:(ZMK l f L d).length≤3200:=by
      rw[hrowsE,List.length_cons] at hrl;omega
     refine ZOl (hs0:=[_,_]) (hk:=[ZAn vu (dP 1 false (ZRj S L (ZCi L) n)),ZAn vx (dP 2 true (ZHZ l f)),ZIj S]) (hp:=hp) (D:=fun r=>dS ZAQ r) (certH bm n (plc 0 l0 (fun _=>true))) _ (ZVh rfl) Tryz.call101 hEq2.toN ⟨vR,rfl⟩ (by repeat (first|exact FixF.nil|apply FixF.x|apply FixF.a)) (by simp) ?_ ?_
     ·rintro l' pre x hs q hlt ⟨v,rfl⟩;have hpl:((plc 0 l0 (fun _=>true))::pre).length≤3201:=by rw[List.length_cons];omega
      dsimp only[z0,z1,List.cons_append,List.nil_append];refine WR.block (WR.region rfl ?_);refine I.WL.op rfl (ZAl ZJJ (ZVh rfl) (by decide)) ?_;dsimp only[ZC,z0,z1];refine I.WL.op rfl (ZAY ZKx (ZVh rfl) (mAt 1 rfl) rfl) ?_;dsimp only[ZC,z0,z1];refine I.WL.op rfl (ZVo (ZVh rfl)) ?_;dsimp only[ZC,z0,z1];refine I.Zl ZDj (R:=ZAQ) (_gR:=inferInstance) (ZVh rfl) (ZVh rfl) (fun _=>ZAI) (by simp) (by simp) (by decide) (by omega) fun v'=>?_;dsimp only[ZC,z0,z1];refine I.WL.op rfl (ZAl ZJJ (ZVh rfl) (by decide)) ?_;dsimp only[ZC,z0,z1];refine I.ZFQ (.head _) fun⟨ad,c,hv'⟩=>?_;refine I.WL.perm (List.Perm.swap _ _ _) (I.WL.storeS ZKx (ZVh rfl) (ZVh rfl) (Z0 (by rw[hv'];rfl)) (by simp) ?_);dsimp only[ZC,z0,z1];refine I.WL.perm (List.Perm.swap _ _ _) (I.WL.nil ?_);exact⟨rfl,_,⟨v',rfl⟩,rfl⟩
     ·rintro k hs ⟨v,rfl⟩;refine ZOU (ZRF ?_);rw[<- hrowsE];refine ZUu (Q:=fun e f p=>e = .ret/\p=ZHg k::hp/\(∃d6,f[6]?=some d6/\d6.le (dS ZFw (R.getD [])))/\f[7]?=some (dB R.isSome)/\f[8]?=some (dI 0)) ?_ ?_
      ·refine ZGh (ZWP ZUF (ZL8 (k:=1) rfl (ZJi (n:=2) (t:=15) rfl (by decide) rfl (WL.drop (WL.drop (WL.drop (ZVj ⟨rfl,?_⟩)))))));dsimp only[z0,z1];have hrows:(ZBb l f L).length≤3201:=by omega
       have h1:L05.AllAsc (ZBb l f L):=fun r hr=>(hrw r hr).1;have h2:∀r∈ZBb l f L,L05.Low (n:Int) r:=fun r hr v hv=>((hrw r hr).2 v hv).2;have h3:∀r∈ZBb l f L,L05.Pos r:=fun r hr v hv=>((hrw r hr).2 v hv).1;have hb0:VecI ((ZBb l f L).length:Int) [0]:=⟨by simp,fun v hv=>by rw[List.mem_singleton.1 hv,hrowsE,List.length_cons];omega⟩;have cSol:=ZQV n (ZBb l f L) [0] (by omega) (by omega) h1 h2 h3 hb0;obtain⟨rows,hrowsN⟩:∃rows,ZBb l f L=rows:=⟨_,rfl⟩;rw[hrowsN] at hrows hsolr hR cSol ⊢;clear h1 h2 h3 hb0 hrw hrl hrowsE hEq hEq2;have hn0:¬ (n:Int)>4096:=by omega
       have hr0:¬ (rows.length:Int)>4096:=by omega
       cases hsol:L05.solP rows [0] n with
       | none =>
        rw[hsol] at hR cSol;rw[show(Option.map (ZBL L) none:Option (List Cx))=none from rfl] at hR;subst hR;((repeat' (first|(apply zV;exact yF;exact zQ)|refine ZVj ?_|refine ZDS fun Kx hK=>?_|(refine hK _ _ ?_;clear hK)|refine WX.region ?_|((first|apply ZF|apply WD.op);(focus (first|exact wN|(apply ZVt;exact wY;((first|(exact ZA4 (ZVh rfl))|(refine ZW ZCc (ZVh rfl) (ZWI _) rfl rfl)|(refine ZW ZJJ (ZVh rfl) (ZWI _) rfl rfl)|(apply ZVy;exact ZKx;exact ZVh rfl)|(apply ZVy;exact ZHn;exact ZVh rfl)|(apply ZVu;exact ZVh rfl;exact ZB0;exact ZDj.unt)|(apply ZVm cSol Tryz.call62;exact ZV9 (ZWD rfl ZEc) (ZV9 (ZVh rfl) ZWJ))|exact yG|(apply ZWb;exact eD;((try simp only[List.map_cons,List.map_nil]);(repeat (first|exact Zr|(apply Zp;(first|exact ZVh rfl|exact ZV5|exact ZWE|exact ZWD rfl (by first|exact ZN|exact ZJ (by decide))|exact⟨ZN⟩|exact⟨ZJ (by decide)⟩)))));rfl;rfl;(intro _;first|exact ZAd|exact ZAS|exact ZAI|exact shape_B);(exact(by simp)))|fail);all_goals infer_instance))));dsimp only[ZC,z0,z1])|((first|refine ZM rfl rfl rfl (fun h=>?_) (fun h=>?_)|refine ZL rfl rfl rfl (fun h=>?_) (fun h=>?_)|refine ZK rfl rfl rfl (fun h=>?_) (fun h=>?_)|refine Za rfl rfl rfl (fun h=>?_) (fun h=>?_)|refine ZX rfl rfl rfl (fun h=>?_) (fun h=>?_)|refine ZV rfl rfl rfl (fun h=>?_) (fun h=>?_)) <;> (first|(exfalso;first|omega|contradiction)|(dsimp only[z0,z1])))|(apply ZB6;exact oD;all_goals (intro h;try exact xD))|(apply ZJn;exact oD;all_goals (intro h;try exact xD))|refine WX.skip ?_|refine WX.ret ?_|refine ZVz ?_));all_goals ((repeat clear hK);repeat clear Kx))
        all_goals try exact xO
        exact⟨rfl,rfl,⟨_,rfl,ZN⟩,rfl,rfl⟩
       | some x =>
        have hso:=hsolr x hsol;rw[hsol] at hR cSol;rw[show(Option.map (ZBL L) (some x):Option (List Cx))=some (ZBL L x) from rfl] at hR;subst hR;rw[show(some x:Option (List Int)).getD []=x from rfl] at cSol;have hx64:∀i∈x,ZC9 i:=fun i hi=>by
         have:=hso.rng i hi;unfold ZC9;omega
        have hxl:x.length≤n:=ZAu hso.asc hso.rng;(repeat' (first|(apply zV;exact yF;exact zQ)|refine ZVj ?_|refine ZDS fun Kx hK=>?_|(refine hK _ _ ?_;clear hK)|refine WX.region ?_ |  (refine ZWm kvQ ZCT fun bc=>?_;dsimp only[ZC,z0,z1])|((first|apply ZF|apply WD.op);(focus (first|exact wN|(apply ZVt;exact wY;((first|(exact ZA4 (ZVh rfl))|(refine ZW ZCc (ZVh rfl) (ZWI _) rfl rfl)|(refine ZW ZJJ (ZVh rfl) (ZWI _) rfl rfl)|(apply ZVy;exact ZKx;exact ZVh rfl)|(apply ZVy;exact ZHn;exact ZVh rfl)|(apply ZVu;exact ZVh rfl;exact ZB0;exact ZDj.unt)|(apply ZVm cSol Tryz.call62;exact ZV9 (ZWD rfl ZEc) (ZV9 (ZVh rfl) ZWJ))|((first|apply ZVo|apply ZVn|apply ZVq|apply ZV6|apply ZWA|apply ZVv|apply ZVw) <;> exact oD)|(apply ZVu;exact oD;exact nD;exact uD)|(apply ZWb;exact eD;((try simp only[List.map_cons,List.map_nil]);(repeat (first|exact Zr|(apply Zp;(first|exact ZVh rfl|exact ZV5|exact ZWE|exact ZWD rfl (by first|exact ZN|exact ZJ (by decide))|exact⟨ZN⟩|exact⟨ZJ (by decide)⟩)))));rfl;rfl;(intro _;first|exact ZAd|exact ZAS|exact ZAI|exact shape_B);(exact(by simp)))|(apply ZZ;exact oD;(with_reducible rfl);exact oD)|(apply ZWG;exact oD;rfl)|fail);all_goals infer_instance))));dsimp only[ZC,z0,z1])|((first|refine ZM rfl rfl rfl (fun h=>?_) (fun h=>?_)|refine ZL rfl rfl rfl (fun h=>?_) (fun h=>?_)|refine ZK rfl rfl rfl (fun h=>?_) (fun h=>?_)|refine Za rfl rfl rfl (fun h=>?_) (fun h=>?_)|refine ZX rfl rfl rfl (fun h=>?_) (fun h=>?_)|refine ZV rfl rfl rfl (fun h=>?_) (fun h=>?_)) <;> (first|(exfalso;first|omega|contradiction)|(dsimp only[z0,z1])))|(apply ZB6;exact oD;all_goals (intro h;try exact xD))|(apply ZJn;exact oD;all_goals (intro h;try exact xD))|refine WX.skip ?_|refine WX.block ?_))
        all_goals try exact xO
        (refine WX.loopU (X:=Nat) (fun i=>[(123,dI (i:Int)),(22,dA),(124,dA),(125,dA),(126,dA),(127,dA),(128,dA),(129,dA)]) (fun i=>(hM bc kvQ ZCT (ZDI (x.take i))::ZHg k::hp)) (fun i=>x.length-i) (fun i=>i≤x.length) 0 ?start ?frame0 ?objs0 ?round)
        case start=>exact Nat.zero_le _
        case frame0=>exact zFr
        case objs0=>rfl
        case round =>
         rintro i hi;dsimp only[ZH,z0,z1];have hkeys:=ZKn x i hi;have hin:=ZQP x i hi;by_cases hil:i<x.length
         ·have hilI:(i:Int)<(x.length:Int):=by omega
          have hsn:=ZFG hil;((repeat' (first|(apply zV;exact yF;exact zQ)|refine ZVj ?_|refine ZDS fun Kx hK=>?_|(refine hK _ _ ?_;clear hK)|refine WX.region ?_ |  (refine ZBW (v:=x[i]) (u:=true) ZLc ZE1 (ZVh rfl) (ZVh rfl) isI ZWE isB (hx64 _ (List.getElem_mem hil)) (fun p hp=>hx64 _ (hin p hp)) hkeys ?_;dsimp only[ZC,z0,z1])|((first|apply ZF|apply WD.op);(focus (first|exact wN|(apply ZVt;exact wY;((first|exact yG|fail);all_goals infer_instance))));dsimp only[ZC,z0,z1])|(apply ZB6;exact oD;all_goals (intro h;try exact xD))|refine WX.skip ?_|refine WX.block ?_|refine ZVx ?_));all_goals ((repeat clear hK);repeat clear Kx))
          all_goals try exact xO
          rw[<- hsn];(refine zNx (i+1) ?_;(try dsimp only))
          exact hil
         ·have hilI:¬ (i:Int)<(x.length:Int):=by omega
          obtain rfl:i=x.length:=by omega
          rw[List.take_length] at hkeys hin ⊢;refine ZGh (ZEt 27 Zh (ZVj ⟨rfl,?_⟩));(repeat' (first|(apply zV;exact yF;exact zQ)|refine ZVj ?_|refine ZDS fun Kx hK=>?_|(refine hK _ _ ?_;clear hK)|(refine ZV0 ?_;clear hK)|refine WX.region ?_|((first|apply ZF|apply WD.op);(focus (first|exact wN|(apply ZVt;exact wY;((first|(exact ZA4 (ZVh rfl))|(refine ZW ZCc (ZVh rfl) (ZWI _) rfl rfl)|(apply ZVy;exact ZUm;exact ZVh rfl)|(apply ZVu;exact ZVh rfl;exact ZB0;exact ZAK.unt)|((first|apply ZVo|apply ZVn|apply ZVq|apply ZV6|apply ZWA|apply ZVv|apply ZVw) <;> exact oD)|fail);all_goals infer_instance))));dsimp only[ZC,z0,z1])|(apply ZB6;exact oD;all_goals (intro h;try exact xD))|refine WX.exit ?_|refine WX.block ?_))
          all_goals try exact xO
          (refine WX.loopU (X:=Nat × Value) (fun y=>[(135,dI (y.1:Int)),(24,dI ((ZAj L y.1:Nat):Int)),(23,dX y.2),(26,dA),(27,dA),(29,dA),(136,dA),(137,dA),(138,dA),(139,dA),(140,dA),(141,dA),(142,dA),(143,dA),(144,dA),(145,dA),(146,dA),(147,dA),(148,dA),(149,dA),(150,dA),(151,dA),(152,dA),(153,dA),(154,dA),(155,dA),(156,dA),(157,dA),(158,dA),(159,dA),(160,dA)]) (fun y=>(Zk y.2 27 Zh ((ZBL L x).take y.1)::hM bc kvQ ZCT (ZDI x)::ZHg k::hp)) (fun y=>L.length-y.1) (fun y=>y.1≤L.length) (0,.slice none 0 0) ?start ?frame0 ?objs0 ?round)
          case start=>exact Nat.zero_le _
          case frame0=>exact zFr
          case objs0=>rfl
          case round =>
           rintro⟨q,vo⟩ hq;simp only at hq;dsimp only[ZH,z0,z1];have hcl:=ZHu (x:=x) (L:=L);by_cases hql:q<L.length
           ·have hqI:(q:Int)<(L.length:Int):=by omega
            have hsn:=ZLR (x:=x) hql;have hoffn:=ZIz L (show q+1≤d+1 by omega);rw[hn,ZDY hql] at hoffn;have hlvE:=ZF1 hql;rw[<- hlvE] at hoffn;have hos:ZAj L (q+1)=ZAj L q+L[q].length:=by rw[ZDY hql,<- hlvE]
            have hlv8:∀s∈L[q],s.length≤1000:=fun s hs=>by
             rw[hlvE] at hs;have:=(hL.ok q s hs).2;omega
            obtain⟨lv,hlve⟩:∃lv,L[q]=lv:=⟨_,rfl⟩;rw[hlve] at hsn hoffn hos hlv8;refine ZGh (ZEt 22 ZI (ZVj ⟨rfl,?_⟩));(repeat' (first|(apply zV;exact yF;exact zQ)|refine ZVj ?_|refine ZDS fun Kx hK=>?_|(refine hK _ _ ?_;clear hK)|refine WX.region ?_|((first|apply ZF|apply WD.op);(focus (first|exact wN|(apply ZVt;exact wY;((first|(refine ZCK (D:=fun z=>dP 1 false (dS (ZA5 S) z)) hlve (ZV8 (R:=ZA5 S) (_gR:=inferInstance) (k:=q) ZAK (ZVh rfl) (ZVh rfl) hql))|((first|apply ZVo|apply ZVn|apply ZVq|apply ZV6|apply ZWA|apply ZVv|apply ZVw) <;> exact oD)|(apply ZVu;exact oD;exact nD;exact uD)|fail);all_goals infer_instance))));dsimp only[ZC,z0,z1])|(apply ZB6;exact oD;all_goals (intro h;try exact xD))|refine WX.skip ?_|refine WX.block ?_))
            all_goals try exact xO
            (refine WX.loopU (X:=Nat × Value) (fun y=>[(141,dI (y.1:Int)),(24,dI ((ZAj L q+y.1:Nat):Int)),(27,dX y.2),(29,dA),(142,dA),(143,dA),(144,dA),(145,dA),(146,dA),(147,dA),(148,dA),(149,dA),(150,dA),(151,dA),(152,dA),(153,dA),(154,dA),(155,dA)]) (fun y=>(Zk y.2 22 ZI (ZTA x (ZAj L q) (lv.take y.1))::Zk vo 27 Zh ((ZBL L x).take q)::hM bc kvQ ZCT (ZDI x)::ZHg k::hp)) (fun y=>lv.length-y.1) (fun y=>y.1≤lv.length) (0,.slice none 0 0) ?start ?frame0 ?objs0 ?round)
            case start=>exact Nat.zero_le _
            case frame0=>exact zFr
            case objs0=>rfl
            case round =>
             rintro⟨m,ve⟩ hm;simp only at hm;dsimp only[ZH,z0,z1];by_cases hml:m<lv.length
             ·have hmI:(m:Int)<(lv.length:Int):=by omega
              have hsn2:=ZQN (x:=x) (off:=ZAj L q) hml;have hv34:=ZQQ ((ZAj L q+m:Nat):Int) x;have h64:ZC9 ((ZAj L q+m:Nat):Int):=by unfold ZC9;omega
              have e1:((ZAj L q+m:Nat):Int)+1=((ZAj L q+(m+1):Nat):Int):=by omega
              have hb1:((ZAj L q+m:Nat):Int)≤100000:=by omega
              have hb0:0≤((ZAj L q+m:Nat):Int):=by omega
              have cCl:=ZIZ lv[m] (hlv8 _ (List.getElem_mem hml));have hsl:(ZTA x (ZAj L q) (lv.take m)).length≤10000:=by
               unfold ZTA;rw[List.length_map];refine Nat.le_trans (List.length_filter_le _ _) ?_;rw[List.length_zipIdx,List.length_take];omega
              generalize ((ZAj L q+m:Nat):Int)=om at *;by_cases hmx:om∈x
              ·rw[if_pos hmx] at hsn2;rw[decide_eq_true hmx] at hv34;((repeat' (first|(apply zV;exact yF;exact zQ)|refine ZVj ?_|refine ZDS fun Kx hK=>?_|(refine hK _ _ ?_;clear hK)|refine WX.region ?_ |  (refine Zl ZB8 (R:=ZI) (_gR:=inferInstance) (ZVh rfl) (ZVh rfl) (fun _=>ZAd) (by simp) (by simp) (by decide) (by omega) fun v'=>?_;dsimp only[ZC,z0,z1])|((first|apply ZF|apply WD.op);(focus (first|exact wN|(apply ZVt;exact wY;((first|(exact ZDP (ZCK (D:=fun z=>dX z) hv34 (SY.lookM ZLc ZE1 (ZVh rfl) (mAt 2 rfl) (ZVh rfl) isI h64 (fun p hp=>hx64 _ (hin p hp)) hkeys)))|(apply ZVm cCl Tryz.call47;exact ZV9 (ZWD rfl ZNX) ZWJ)|exact yG|fail);all_goals infer_instance))));dsimp only[ZC,z0,z1])|(apply ZRR;exact oD;(with_reducible rfl))|(apply ZB6;exact oD;all_goals (intro h;try exact xD))|refine WX.skip ?_|refine WX.block ?_|refine ZVx ?_));all_goals ((repeat clear hK);repeat clear Kx))
               all_goals try exact xO
               rw[e1,<- hsn2];(refine zNx (m+1,v') ?_;(try dsimp only))
               exact hml
              ·rw[if_neg hmx,List.append_nil] at hsn2;rw[decide_eq_false hmx] at hv34;((repeat' (first|(apply zV;exact yF;exact zQ)|refine ZVj ?_|refine ZDS fun Kx hK=>?_|(refine hK _ _ ?_;clear hK)|refine WX.region ?_|((first|apply ZF|apply WD.op);(focus (first|exact wN|(apply ZVt;exact wY;((first|(exact ZDP (ZCK (D:=fun z=>dX z) hv34 (SY.lookM ZLc ZE1 (ZVh rfl) (mAt 2 rfl) (ZVh rfl) isI h64 (fun p hp=>hx64 _ (hin p hp)) hkeys)))|exact yG|fail);all_goals infer_instance))));dsimp only[ZC,z0,z1])|(apply ZRQ;exact oD;(with_reducible rfl))|(apply ZB6;exact oD;all_goals (intro h;try exact xD))|refine WX.skip ?_|refine WX.block ?_|refine ZVx ?_));all_goals ((repeat clear hK);repeat clear Kx))
               all_goals try exact xO
               rw[e1,<- hsn2];(refine zNx (m+1,ve) ?_;(try dsimp only))
               exact hml
             ·have hmI:¬ (m:Int)<(lv.length:Int):=by omega
              obtain rfl:m=lv.length:=by omega
              rw[List.take_length];refine ZGh (ZDR (s:=27) rfl (ZVj ⟨rfl,?_⟩));dsimp only[z0,z1];have hol:((ZBL L x).take q).length≤10:=by rw[List.length_take];omega
              ((repeat' (first|(apply zV;exact yF;exact zQ)|refine ZVj ?_|refine ZDS fun Kx hK=>?_|(refine hK _ _ ?_;clear hK)|(refine ZV0 ?_;clear hK)|refine WX.region ?_ |  (refine Zl ZAK (R:=Zh) (_gR:=inferInstance) (ZVh rfl) (ZVh rfl) (fun _=>ZAI) (by simp) (by simp) (by decide) (by omega) fun v'=>?_;dsimp only[ZC,z0,z1])|((first|apply ZF|apply WD.op);(focus (first|exact wN|(apply ZVt;exact wY;((first|exact yG|fail);all_goals infer_instance))));dsimp only[ZC,z0,z1])|(apply ZB6;exact oD;all_goals (intro h;try exact xD))|refine WX.exit ?_|refine ZVx ?_));all_goals ((repeat clear hK);repeat clear Kx))
              all_goals try exact xO
              rw[<- hsn,<- hos];(refine zNx (q+1,v') ?_;(try dsimp only))
              exact hql
           ·have hqI:¬ (q:Int)<(L.length:Int):=by omega
            obtain rfl:q=L.length:=by omega
            rw[<- hcl,List.take_length];refine ZGh (ZDR (s:=23) rfl (WL.drop (ZVj ⟨rfl,?_⟩)));dsimp only[z0,z1];rw[hcl];((repeat' (first|(apply zV;exact yF;exact zQ)|refine ZVj ?_|refine ZDS fun Kx hK=>?_|(refine hK _ _ ?_;clear hK)|(refine ZV0 ?_;clear hK)|refine WX.region ?_|((first|apply ZF|apply WD.op);(focus (first|exact wN|(apply ZVt;exact wY;((first|exact yG|fail);all_goals infer_instance))));dsimp only[ZC,z0,z1])|(apply ZB6;exact oD;all_goals (intro h;try exact xD))|refine WX.ret ?_|refine WX.exit ?_));all_goals ((repeat clear hK);repeat clear Kx))
            all_goals try exact xO
            exact⟨rfl,rfl,⟨_,rfl,ZWI _⟩,rfl,rfl⟩
      ·rintro e f p ⟨rfl,rfl,⟨d6,h6,h6l⟩,h7,h8⟩;refine WK.of fun a w ha hh2 hf2=>?_;show LeavesInM _ _ _ _ _ _ _ _ _;rw[ha];refine ZPc (by simp) [k] w hh2 fun w' hh' hd'=>?_;exact ZNE h6 h6l h7 h8 hf2 hh' hd'⟩
theorem ZGH {S:Prop} (l:Cx) (vs:List Vx) (A:List Int) (d:Nat) (h:ZCD l vs A=0) (hd:d<8) (hF:ZF8 l≤400) (hS:S->ZEr l) (hne:l≠[]\/S):Fn Tryz.prog 23 [dS (ZSj S) l,dS Lab (vs,A),dI (d:Int)] (dT [dS ZFw ((ZFU l (Zc vs A) (d+1)).getD []),dB (ZFU l (Zc vs A) (d+1)).isSome,dI 0]) :=
 ZLz (ZRc l vs A d h hd hF hS hne) fun d' hp2 ⟨h1,h2⟩=>by subst h1 h2;exact ZWR (ZWI _)
end
end Go.Proofs.YtofkoleingbbpaaGreatDoor
