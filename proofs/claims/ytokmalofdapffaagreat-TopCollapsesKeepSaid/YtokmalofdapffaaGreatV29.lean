/- Part 29: walks by contracts, and plain laws. -/
import Derived.Test.YtokmalofdapffaaGreatV28
set_option linter.unusedVariables false
set_option linter.unusedSimpArgs false
set_option linter.unusedSectionVars false
set_option maxRecDepth 100000
set_option maxHeartbeats 4000000
namespace Go.Proofs.YtokmalofdapffaaGreat
section
open Go.RowKit
def ZRP (a:Act):Act:={ tmps:=a.tmps,defers:=[] }
structure WK (K:Act->World->Prop) (P0:Nat->Prop) (B:Nat) (w0:World) (ds:List Deferred) (fr:List Dat) (hp:List HObj):Prop where
 of ::
 out:∀ (a:Act) (w:World),a.defers=ds->Hp P0 B w0 hp w->Fr (Imm P0 B hp) w (ZRP a) fr->K a w
abbrev WY (P:Program) (QR:Exit->Act->World->Prop) (P0:Nat->Prop) (B:Nat) (w0:World) (ds:List Deferred) (c:Code) (fr:List Dat) (hp:List HObj):Prop:=WK (c.wp P QR) P0 B w0 ds fr hp
abbrev WV (P:Program) (ops:Array Oper) (QR:Exit->Act->World->Prop) (P0:Nat->Prop) (B:Nat) (w0:World) (ds:List Deferred) (rest:List Oper) (fr:List Dat) (hp:List HObj):Prop:=WK (wpList P ops QR rest) P0 B w0 ds fr hp
section
variable {P:Program} {ops:Array Oper} {QR:Exit->Act->World->Prop} {K:Act->World->Prop} {P0:Nat->Prop} {B:Nat} {w0:World} {ds:List Deferred} {fr fr':List Dat} {hp hp':List HObj} {o:Oper} {rest:List Oper} {d:Dat} {x y:Code}
theorem WK.perm (h:hp.Perm hp') (k:WK K P0 B w0 ds fr hp'):WK K P0 B w0 ds fr hp:=WK.of fun a w ha hh hf =>
 let ⟨h1,h2⟩:=hh.perm h
 k.out a w ha h1 (hf.mono fun d _ hd=>d.weak hd fun k hk=>(h2 k).1 hk)
theorem WK.drop {ob:HObj} (k:WK K P0 B w0 ds fr hp):WK K P0 B w0 ds fr (ob::hp):=WK.of fun a w ha hh hf=>k.out a w ha hh.drop (hf.mono fun d _ hd=>d.weak hd Imm.sub)
theorem ZKC (h:LeF fr fr') (k:WK K P0 B w0 ds fr' hp):WK K P0 B w0 ds fr hp:=WK.of fun a w ha hh hf=>k.out a w ha hh (hf.weak h.out.1 h.out.2)
theorem WV.op (hg:o.guard=none) (h:SY P ops hp o fr d) (k:WV P ops QR P0 B w0 ds rest (ZB fr o.dst d) hp):WV P ops QR P0 B w0 ds (o::rest) fr hp:=WK.of fun a w ha hh hf =>
 ZBM hg h hh hf fun a' w' ha' hh' hf'=>k.out a' w' (ha'.trans ha) hh' hf'
theorem ZPH {β:Type} {H:β->List HObj} {D:β->Dat} (h:SW P ops hp H D o fr) (k:∀ x,WV P ops QR P0 B w0 ds rest (ZB fr o.dst (D x)) (H x)):WV P ops QR P0 B w0 ds (o::rest) fr hp:=WK.of fun a w ha hh hf=>by
 unfold wpList
 have hwant:Region.wanted o (yielded ops a.tmps)=true:=by simp [Region.wanted,h.guard]
 rw [if_pos hwant]
 refine .inl (h.out hh (a:=a) ⟨hf.size,fun t _ d hd=>hf.rd t d hd⟩ _ _ fun x v w' hh' hrd hd=>?_)
 have hf2:=Fr.put (x:=o.dst) (hf.mono fun d u hu=>hrd d u hu) hd
 refine (k x).out (a.put o.dst v) w' ?_ hh' ?_
 ·rw [<- ha];cases o.dst <;> rfl
 ·have e1:ZRP (a.put o.dst v)=(ZRP a).put o.dst v:=by cases o.dst <;> rfl
  rw [e1];exact hf2
theorem WY.region {id:Nat} {l:List Oper} (h:WV P l.toArray QR P0 B w0 ds l fr hp):WY P QR P0 B w0 ds (.region id l.toArray false) fr hp:=WK.of fun a w ha hh hf=>wp_region_lit (h.out a w ha hh hf)
theorem WY.seq (h:WY P (Exit.then (y.wp P QR) QR) P0 B w0 ds x fr hp):WY P QR P0 B w0 ds (.seq x y) fr hp:=WK.of fun a w ha hh hf=>wp_seq (h.out a w ha hh hf)
theorem WY.skip (h:WK (QR .normal) P0 B w0 ds fr hp):WY P QR P0 B w0 ds .skip fr hp:=WK.of fun a w ha hh hf=>wp_skip (h.out a w ha hh hf)
theorem WY.exit {id:Nat} (h:WK (QR (.exit id)) P0 B w0 ds fr hp):WY P QR P0 B w0 ds (.exit id) fr hp:=WK.of fun a w ha hh hf=>wp_exit (h.out a w ha hh hf)
theorem WY.ret (h:WK (QR .ret) P0 B w0 ds fr hp):WY P QR P0 B w0 ds .ret fr hp:=WK.of fun a w ha hh hf=>wp_ret (h.out a w ha hh hf)
theorem WY.block {id:Nat} (h:WY P (Exit.inBlock id QR) P0 B w0 ds x fr hp):WY P QR P0 B w0 ds (.block id x) fr hp:=WK.of fun a w ha hh hf=>wp_block (h.out a w ha hh hf)
theorem ZPJ {c:Operand} {b:Bool} (hc:OpD fr c (dB b)) (hb:b=true) (h:WY P QR P0 B w0 ds x fr hp):WY P QR P0 B w0 ds (.cond c x y) fr hp:=WK.of fun a w ha hh hf=>by
 have hev:(ZRP a).eval c = .bool b:=hc.ev hf
 exact wp_cond_true (by rw [hb] at hev;exact hev) (h.out a w ha hh hf)
theorem ZPI {c:Operand} {b:Bool} (hc:OpD fr c (dB b)) (hb:b=false) (h:WY P QR P0 B w0 ds y fr hp):WY P QR P0 B w0 ds (.cond c x y) fr hp:=WK.of fun a w ha hh hf=>by
 have hev:(ZRP a).eval c = .bool b:=hc.ev hf
 exact wp_cond_false (by rw [hb] at hev;exact hev) (h.out a w ha hh hf)
theorem ZCf (h:∀ Kx:List Dat->List HObj->Prop,(∀ f p,WY P QR P0 B w0 [] y f p->Kont Kx f p)->WC P (ThenD (Kont Kx) (fun _ _ _=>False)) x fr hp):WY P QR P0 B w0 [] (.seq x y) fr hp:=WK.of fun a w ha hh hf=>by
 have ha2:ZRP a=a:=by cases a;cases ha;rfl
 rw [ha2] at hf
 refine wp_seq (Code.wp_mono ?_ ((h (fun f p=>WY P QR P0 B w0 [] y f p) fun f p k=>⟨k⟩).on hh hf))
 rintro e a' w' ⟨f,p,q,hh',hf'⟩
 cases e with
 | normal =>
  have hk:Kont (fun f p=>WY P QR P0 B w0 [] y f p) f p:=q
  have ha3:ZRP a'=a':=by
   have:=hf'.defers
   cases a';cases this;rfl
  exact hk.out.out a' w' hf'.defers hh' (by rw [ha3];exact hf')
 | _=>exact (q:False).elim
theorem WY.loop {X:Type} {c:Code} (F:X->List Dat) (H:X->List HObj) (D:X->List Deferred) (μ:X->Nat) (p:X->Prop) (x0:X) (h0:p x0)
  (round:∀ (x:X) (K:Act->World->Prop),p x->(∀ x',p x'->μ x'<μ x->WK K P0 B w0 (D x') (F x') (H x'))->WY P (Exit.then K QR) P0 B w0 (D x) c (F x) (H x)) :
  WY P QR P0 B w0 (D x0) (.loop c) (F x0) (H x0):=by
 have key:∀ (n:Nat) (x:X),p x->μ x<n->WK (Code.rounds P c QR n) P0 B w0 (D x) (F x) (H x):=by
  intro n
  induction n with
  | zero=>intro x _ h;omega
  | succ n ih=>exact fun x hx hn=>WK.of fun a w ha hh hf=>(round x (Code.rounds P c QR n) hx fun x' hx' hlt=>ih x' hx' (by omega)).out a w ha hh hf
 exact WK.of fun a w ha hh hf=>wp_loop_rounds _ ((key (μ x0+1) x0 h0 (by omega)).out a w ha hh hf)
theorem ZPK {X:Type} {c:Code} {D:X->List Deferred} (ups:X->List (Nat × Dat)) (H:X->List HObj) (μ:X->Nat) (p:X->Prop) (x0:X) (h0:p x0) (hF:LeF fr (ZQ fr (ups x0))) (hH:hp=H x0) (hD:ds=D x0)
  (round:∀ (x:X) (K:Act->World->Prop),p x->(∀ x',p x'->μ x'<μ x->WK K P0 B w0 (D x') (ZQ fr (ups x')) (H x'))->WY P (Exit.then K QR) P0 B w0 (D x) c (ZQ fr (ups x)) (H x)):WY P QR P0 B w0 ds (.loop c) fr hp:=by
 subst hH
 subst hD
 exact ZKC hF (WY.loop (fun x=>ZQ fr (ups x)) H D μ p x0 h0 round)
theorem ZFW (k:WK K P0 B w0 ds fr hp):WV P ops (Exit.then K QR) P0 B w0 ds [] fr hp:=k
theorem ZPL (k:WK K P0 B w0 ds fr hp):WY P (Exit.then K QR) P0 B w0 ds .skip fr hp:=WY.skip k
theorem ZIF {id:Nat} (k:WK (QR .normal) P0 B w0 ds fr hp):WK (Exit.inBlock id QR .normal) P0 B w0 ds fr hp:=k
theorem ZKB {id:Nat} (k:WK (QR (.exit id)) P0 B w0 ds fr hp):WK (Exit.then K QR (.exit id)) P0 B w0 ds fr hp:=k
theorem ZKA (k:WK K P0 B w0 ds fr hp):WK (Exit.then K QR .normal) P0 B w0 ds fr hp:=k
theorem ZMM {id:Nat} (k:WK (QR .normal) P0 B w0 ds fr hp):WK (Exit.inBlock id QR (.exit id)) P0 B w0 ds fr hp:=WK.of fun a w ha hh hf=>by
 show (if id=id then QR .normal a w else QR (.exit id) a w)
 rw [if_pos rfl]
 exact k.out a w ha hh hf
end
theorem WY.range {P:Program} {QR:Exit->Act->World->Prop} {P0:Nat->Prop} {B:Nat} {w0:World} {ds:List Deferred} {g:Operand} {p:Tmp} {assign body:Code} {fr:List Dat} {gf:FuncId} {lb:List Value} {hk hp hs0:List HObj} {α:Type} {D:α->Dat} {xs:List α} (H:List α->List HObj->Prop) (F0:List Dat) (F1:α->List Dat)
  (hg:OpD fr g (dX (.func (.func gf) #[] lb.toArray))) (he:ZAw P gf) {N:Nat} (hS:SeqN P gf lb hk D xs N) (h0:H [] hs0) (hF:FixF fr F0)
  (hassign:∀ (l:Nat) (x:α) (q:List HObj),WR P l (fun e f q'=>e = .normal/\q'=q/\f=F1 x) assign (F0.set p (D x)) q)
  (hbody:∀ (l:Nat) (pre:List α) (x:α) (hs q:List HObj),pre.length<N->H pre hs->WR P l (fun e _ q'=>e = .normal/\∃ hs',H (pre++[x]) hs'/\q'=hs'++q) body (F1 x) (hs++q))
  (hpost:∀ (k:Nat) (hs:List HObj),H xs hs->WK (QR .normal) P0 B w0 ({ target:=.collected k,args:=#[] }::ds) fr (Z2 k (.deferred (some []))::(hs++(hk++hp)))) :
  WY P QR P0 B w0 ds (.rangeFunc g #[p] assign body) fr (hs0++(hk++hp)):=WK.of fun a w ha hh hf=>by
 refine ZOf H F0 F1 hh hf hg he hS h0 hF hassign hbody fun k hs w' hH hh' hrd=>?_
 rw [<- ha] at hpost
 exact (hpost k hs hH).out _ w' rfl hh' ⟨rfl,hf.size,hrd⟩
theorem ZMe {P:Program} {QR:Exit->Act->World->Prop} {P0:Nat->Prop} {B:Nat} {w0:World} {ds:List Deferred} {g:Operand} {p q id:Nat} {ty:TypeId} {ps:String} {af:Array Edge} {body:Code} {fr:List Dat} {gf:FuncId} {lb:List Value} {hk hp hs0:List HObj} {α:Type} {D:α->Dat} {xs:List α} (H:List α->List HObj->Prop) (F0:List Dat)
  (hg:OpD fr g (dX (.func (.func gf) #[] lb.toArray))) (he:ZAw P gf) {N:Nat} (hS:SeqN P gf lb hk D xs N) (h0:H [] hs0) (hF:FixF fr F0) (hpl:p<fr.length)
  (hbody:∀ (l:Nat) (pre:List α) (x:α) (hs q':List HObj),pre.length<N->H pre hs->WR P l (fun e _ q2=>e = .normal/\∃ hs',H (pre++[x]) hs'/\q2=hs'++q') body ((F0.set p (D x)).set q (D x)) (hs++q'))
  (hpost:∀ (k:Nat) (hs:List HObj),H xs hs->WK (QR .normal) P0 B w0 ({ target:=.collected k,args:=#[] }::ds) fr (Z2 k (.deferred (some []))::(hs++(hk++hp)))) :
  WY P QR P0 B w0 ds (.rangeFunc g #[p] (.region id #[⟨some q,.assign (.tmp p),ty,ps,af,none⟩] false) body) fr (hs0++(hk++hp)) :=
 WY.range H F0 (fun x=>(F0.set p (D x)).set q (D x)) hg he hS h0 hF (fun l x q'=>WR.region (ops:=[_]) rfl (I.WL.op rfl (SY.assign (OpD.t (by
  rw [List.getElem?_set]
  rw [if_pos rfl,if_pos (by rw [<- hF.out.1];exact hpl)]))) (I.WL.nil ⟨rfl,rfl,rfl⟩))) hbody hpost
theorem SeqC.toN {P:Program} {gf:FuncId} {lb:List Value} {hk:List HObj} {α:Type} {D:α->Dat} {xs:List α} (h:SeqC P gf lb hk D xs):SeqN P gf lb hk D xs xs.length:=⟨h.out⟩
def ZS0 (k:Nat):Deferred:={ target:=.collected k,args:=#[] }
def ZNl (k:Nat):HObj:=Z2 k (.deferred (some []))
theorem ZNd {F:Fence} {n:Nat} {P:Program} {fn:Func} {tmps:Array Value} {R:Ending->World->Prop} {P0:Nat->Prop} {B:Nat} {w0:World} {hp:List HObj} {u:FrameMode} (hu:u ≠ .run) :
  ∀ (ks:List Nat) (w:World),Hp P0 B w0 (ks.map ZNl++hp) w->(∀ w',Hp P0 B w0 hp w'->(∀ (d:Dat) (v:Value),d.rd (Imm P0 B (ks.map ZNl++hp)) w v->d.rd (Imm P0 B hp) w' v)->LeavesInM F n P fn tmps R [] u w')->LeavesInM F n P fn tmps R (ks.map ZS0) u w
 | [],w,hh,h=>h w hh fun _ _ hd=>hd
 | k::ks,w,hh,h=>by
  have hK:w.heap[k]?=some (.deferred (some [])):=hh.ok (ZNl k) (by simp)
  refine ⟨hu,.inl ⟨k,_,rfl,run_takeDeferred hK,?_⟩⟩
  have hh2:Hp P0 B w0 (Z2 k (.deferred none)::(ks.map ZNl++hp)) _:=Hp.putObj (o':=.deferred none) hh
  exact ZNd hu ks _ hh2.drop fun w' hh' hd'=>h w' hh' fun d v hd=>hd' d v (d.weak (ZAO (o:=.deferred (some [])) (o':=.deferred none) hd) Imm.sub)
end
section
open Go.RowKit
abbrev NoDef (ops:List Oper):Prop:=(ops.all fun o=>match o.op with|.defer _=>false|_=>true)=true
theorem NoDef.at {ops:List Oper} (h:NoDef ops):∀ o∈ops,∀ c,o.op ≠ .defer c:=fun o ho c hc=>by have:=List.all_eq_true.1 h o ho;rw [hc] at this;cases this
theorem ZBv {P:Program} {md:Region.Mode} {ops:Array Oper} {Q:Exit->Act->World->Prop} {l:Nat} (hd:∀ o∈ops.toList,∀ c,o.op ≠ .defer c):∀ {fuel:Nat} {listed:Array Bool} {a:Act} {w:World},wpAnyIn Fence.wide 0 P md ops Q fuel listed a w->wpAnyIn (Fence.wide.inRound l) 0 P md ops Q fuel listed a w
 | 0,_,_,_,h=>h
 | fuel+1,listed,a,w,h=>by
  refine ⟨h.1,fun i hi=>?_⟩
  have h1:=h.2 i hi
  unfold wpOpIn at h1 ⊢
  cases ho:ops[i]? with
  | none=>simp only [ho] at h1;exact ZBv hd h1
  | some o =>
   simp only [ho] at h1
   have hm:o∈ops.toList:=by rw [<- Array.getElem?_toList] at ho;exact List.mem_of_getElem? ho
   show if _ then _ else _
   split
   ·rename_i hw
    rw [if_pos hw] at h1
    exact ZGY (hd o hm) (Oper.wpIn_mono (fun a w h=>ZBv hd h) h1)
   ·rename_i hw
    rw [if_neg hw] at h1
    exact ⟨fun _ _=>trivial,ZBv hd h1.2⟩
section
variable {P:Program} {l:Nat} {Q:ZAE} {fr:List Dat} {hp:List HObj} {c:Code} {d:Dat}
theorem WR.on (h:WR P l Q c fr hp) {P0:Nat->Prop} {B:Nat} {w0 w:World} {a:Act} (hh:Hp P0 B w0 hp w) (hf:Fr (Imm P0 B hp) w a fr):c.wpIn (Fence.wide.inRound l) 0 P (ZCN Q P0 B w0) a w:=h.out _ _ _ _ _ hh hf
theorem WR.id (h:WR P l Q c fr hp):WR P l Q c fr hp:=h
theorem WR.mono {Q':ZAE} (h:WR P l Q c fr hp) (k:∀ e f p,Q e f p->Q' e f p):WR P l Q' c fr hp:=WR.of fun _ _ _ _ _ hh hf=>wpIn_mono (h.on hh hf) fun _ _ _ ⟨f,p,q,r⟩=>⟨f,p,k _ _ _ q,r⟩
theorem ZMd {x y:Code} (h:∀ K:List Dat->List HObj->Prop,(∀ f p,WR P l Q y f p->Kont K f p)->WR P l (ThenD (Kont K) Q) x fr hp):WR P l Q (.seq x y) fr hp :=
 WR.seq ((h (WR P l Q y) fun _ _ h=>⟨h⟩).mono fun e f p q=>by
  cases e with
  | normal=>exact (q:Kont _ f p).out
  | _=>exact q)
section
variable {cc:Operand} {x y:Code} {p:Prop} {_ip:Decidable p} {b:Bool}
theorem ZPG (hc:OpD fr cc (dB b)) (hb:b=true) (h:WR P l Q x fr hp):WR P l Q (.cond cc x y) fr hp:=WR.cond hc (fun _=>h) (fun h=>by rw [hb] at h;cases h)
theorem ZKF (hc:OpD fr cc (dB b)) (hb:b=false) (h:WR P l Q y fr hp):WR P l Q (.cond cc x y) fr hp:=WR.cond hc (fun h=>by rw [hb] at h;cases h) (fun _=>h)
end
theorem WR.weak {fr':List Dat} (h:WR P l Q c fr' hp) (hl:fr.length=fr'.length) (k:∀ (t:Nat) (d:Dat),fr'[t]?=some d->∃ d0:Dat,fr[t]?=some d0/\d0.le d):WR P l Q c fr hp:=WR.of fun _ _ _ _ _ hh hf=>h.on hh (hf.weak hl k)
theorem WR.drop {o:HObj} (h:WR P l Q c fr hp):WR P l Q c fr (o::hp):=WR.of fun _ _ _ _ _ hh hf=>h.on hh.drop (hf.mono fun d _ hd=>d.weak hd Imm.sub)
end
namespace I
section
variable {P:Program} {ops:Array Oper} {hp:List HObj} {fr:List Dat} {d:Dat} {Q:ZAE} {rest:List Oper} {dst:Option Tmp} {op:Op} {ty:TypeId} {ps:String} {af:Array Edge}
theorem WL.opN (h:SY P ops hp ⟨dst,op,ty,ps,af,none⟩ fr d) (k:WL P ops Q rest (ZB fr dst d) hp):WL P ops Q (⟨dst,op,ty,ps,af,none⟩::rest) fr hp:=ZF (SYG.yes (ZP rfl) h) k
end
end I
end
section
open Go.RowKit
theorem Hp.turn {P0:Nat->Prop} {B:Nat} {w0 w:World} {o o':HObj} {hp:List HObj} (h:Hp P0 B w0 (o::hp) w) (hb:o'.blk=o.blk) (hok:o'.ok (Imm P0 B (o::hp)) w):Hp P0 B w0 (o'::hp) w:=by
 have hI:∀ k,Imm P0 B (o::hp) k->Imm P0 B (o'::hp) k:=fun k hk=>⟨hk.1,fun q hq=>by
  rcases List.mem_cons.1 hq with rfl|hq
  ·rw [hb];exact hk.2 o (by simp)
  ·exact hk.2 q (by simp [hq])⟩
 refine ⟨h.base,h.below,fun q hq k hk=>?_,fun q hq=>?_,?_⟩
 ·rcases List.mem_cons.1 hq with rfl|hq
  ·exact h.own o (by simp) k (by rw [<- hb];exact hk)
  ·exact h.own q (by simp [hq]) k hk
 ·rcases List.mem_cons.1 hq with rfl|hq
  ·exact q.weak hok hI
  ·exact q.weak (h.ok q (by simp [hq])) hI
 ·obtain ⟨h1,h2⟩:=List.pairwise_cons.1 h.apart
  exact List.pairwise_cons.2 ⟨fun q hq k hk=>h1 q hq k (by rw [<- hb];exact hk),h2⟩
section
variable {α:Type} {R:Rel α} {_gR:Good R} {P0:Nat->Prop} {B:Nat} {w0 W:World} {hp:List HObj} {n:Nat} {w:Value} {u:Nat->Value} {e e2:TypeId} {c:Nat->List α}
theorem ZPx (hh:Hp P0 B w0 (Zh w e ZDf ((List.range n).map u)::(gR (List.range n) u e2 R c++hp)) W):Hp P0 B w0 (Zh w e (Arr R) ((List.range n).map c)::hp) W:=by
 have hin:∀ i,i<n->Arr R (fun b=>Imm P0 B (Zh w e ZDf ((List.range n).map u)::hp) b/\w.ownBlock≠some b) W (u i) (c i):=fun i hi=>by
  have hm:=List.mem_range.2 hi
  obtain ⟨h1,_⟩:=hh.perm (ZQ4 (A:=[Zh w e ZDf ((List.range n).map u)]) (B:=hp) (u:=u) (e:=e2) (R:=R) (c:=c) (L:=List.range n) hm)
  have h2:=ZDM h1
  refine Good.weak h2 fun b hb=>⟨⟨hb.1,fun o ho=>?_⟩,fun q=>hb.2 (Zh w e ZDf ((List.range n).map u)) (by simp) q⟩
  rcases List.mem_cons.1 ho with rfl|ho
  ·exact hb.2 _ (by simp)
  ·exact hb.2 o (by simp [ho])
 have h3:Hp P0 B w0 (Zh w e ZDf ((List.range n).map u)::hp) W:=by
  have hp1:(Zh w e ZDf ((List.range n).map u)::(gR (List.range n) u e2 R c++hp)).Perm (gR (List.range n) u e2 R c++Zh w e ZDf ((List.range n).map u)::hp):=List.perm_middle.symm
  obtain ⟨h1,_⟩:=hh.perm hp1
  exact ZGp _ _ h1
 refine h3.turn rfl ?_
 obtain ⟨us,hl,ho,he⟩:=h3.ok (Zh w e ZDf ((List.range n).map u)) (by simp)
 refine ⟨us,by simpa using hl,by simpa using ho,fun k hk hk'=>?_⟩
 have hkn:k<n:=by simpa using hk'
 obtain ⟨r1,r2⟩:=he k hk (by simpa using hkn)
 have r3:us[k]=u k:=by
  have:us[k]=((List.range n).map u)[k]'(by simpa using hkn):=(r2:_/\_).1
  simpa using this
 refine ⟨r1,?_⟩
 rw [r3]
 simpa using hin k hkn
theorem ZSS {K:Act->World->Prop} {dfs:List Deferred} {fr:List Dat} (h:WK K P0 B w0 dfs fr (Zh w e (Arr R) ((List.range n).map c)::hp)):WK K P0 B w0 dfs fr (Zh w e ZDf ((List.range n).map u)::(gR (List.range n) u e2 R c++hp)):=WK.of fun a W ha hh hf=>by
 refine h.out a W ha (ZPx hh) (hf.mono fun d x hd=>d.weak hd fun k hk=>⟨hk.1,fun o ho=>?_⟩)
 rcases List.mem_cons.1 ho with rfl|ho
 ·exact hk.2 (Zh w e ZDf ((List.range n).map u)) (by simp)
 ·exact hk.2 o (by simp [ho])
end
theorem ZLN {K:Act->World->Prop} {P0:Nat->Prop} {B:Nat} {w0:World} {dfs:List Deferred} {fr:List Dat} {hp:List HObj} {b k:Nat} {T eT:TypeId} {ds:List Dat} {α:Type} {R:Rel α} {_gR:Good R} {v:Value} {xs:List α} (hk:ds[k]?=some (dX v)) (h:WK K P0 B w0 dfs fr (ZBd b T (ds.set k (dS (Arr R) xs))::hp)):WK K P0 B w0 dfs fr (ZBd b T ds::Zh v eT R xs::hp):=WK.of fun a w ha hh hf=>by
 obtain ⟨hh1,hI1⟩:=hh.perm (List.Perm.swap _ _ _)
 have hA:Arr R (Imm P0 B (ZBd b T ds::hp)) w v xs:=ZDM hh1
 have hh2:=hh1.drop
 have hgr:w.grownBy w (ZBd b T ds).blk:=⟨rfl,rfl,rfl,Nat.le_refl _,fun _ _ _=>rfl⟩
 obtain ⟨cs,c1,c2,c3,c4⟩:=hh2.ok (ZBd b T ds) (by simp)
 have hkl:=(List.getElem?_eq_some_iff.1 hk).1
 have hkc:k<cs.length:=by omega
 have hv:cs[k]=v:=c4 k _ _ (List.getElem?_eq_getElem hkc) hk
 have hok:(ZBd b T (ds.set k (dS (Arr R) xs))).ok (fun j=>Imm P0 B (ZBd b T ds::hp) j/\j<w.heap.size) w:=by
  refine ⟨cs,c1,by simp [c2],c3,fun j c e hc he=>?_⟩
  rw [List.getElem?_set] at he
  by_cases hjk:k=j
  ·rw [if_pos hjk,if_pos hkl] at he
   cases he
   subst hjk
   rw [List.getElem?_eq_getElem hkc] at hc
   cases hc
   rw [hv]
   exact (dS (Arr R) xs).bound hA
  ·rw [if_neg hjk] at he
   exact e.bound (c4 j c e hc he)
 refine h.out a w ha (hh2.write hgr (.inl rfl) hok) (hf.mono fun d u hd=>?_)
 exact ZN (o:=ZBd b T ds) (o':=ZBd b T (ds.set k (dS (Arr R) xs))) hgr (.inl rfl) (d.weak hd fun j hj=>Imm.sub j ((hI1 j).1 hj))
namespace I
section
variable {P:Program} {ops:Array Oper} {hp:List HObj} {fr:List Dat} {Q:ZAE} {rest:List Oper} {o:Oper}
theorem ZEP {β:Type} {H:β->List HObj} {D:β->Dat} (h:SW P ops hp H D o fr) (k:∀ x,I.WL P ops Q rest (ZB fr o.dst (D x)) (H x)):I.WL P ops Q (o::rest) fr hp:=I.WL.of fun P0 B w0 w a hh hf=>by
 unfold wpListIn
 have hwant:Region.wanted o (yielded ops a.tmps)=true:=by simp [Region.wanted,h.guard]
 rw [if_pos hwant]
 exact ZBg (h.out hh (hf.on _) _ _ fun x v w' hh' hrd hd=>(k x).on hh' (Fr.put (hf.mono fun d u hu=>hrd d u hu) hd))
variable {dst:Option Tmp} {ty:TypeId} {ps:String} {af:Array Edge} {T:TypeId} {α:Type} {R:Rel α} {_gR:Good R}
theorem ZII {n k:Nat} {u:Nat->Value} {v w:Value} {c:Nat->List α} {A B:List HObj} {e e2:TypeId} {p q:Tmp} (T':TyI P T 1 false) (hk:k<n) (hp0:OpD fr (.tmp p) (dX (ZBm w k))) (hx:fr[q]?=some (dX v))
  (hh:I.WL P ops Q rest (ZB fr dst (dX undef)) (Zh w e ZDf ((List.range n).map (upV u k v))::(A++(gR (List.range n) (upV u k v) e2 R c++B)))) :
  I.WL P ops Q (⟨dst,.store T (.tmp p) (.tmp q),ty,ps,af,none⟩::rest) fr (Zh w e ZDf ((List.range n).map u)::(A++(gR (List.range n) (upV u k v) e2 R c++B))):=by
 have hm:Zh v e2 R (c k)∈(Zh w e ZDf ((List.range n).map u)::(A++(gR (List.range n) (upV u k v) e2 R c++B))):=by
  refine List.mem_cons_of_mem _ (List.mem_append_right _ (List.mem_append_left _ ?_))
  have:=ZQ3 (R:=R) (u:=upV u k v) (e:=e2) (c:=c) (L:=List.range n) (i:=k) (List.mem_range.2 hk)
  rwa [ZLE] at this
 refine I.ZBx hm fun ⟨ad,cp,hv⟩=>ZEP (SW.storeR (R:=ZDf) (_gR:=inferInstance) T' hp0 (OpD.tle hx (ZSy (by rw [hv];rfl))) ZOJ (by simpa using hk)) fun _=>?_
 rw [ZI1 hk]
 exact hh
end
end I
end
section
open Go.RowKit
def ZLW (md:Region.Mode) (ops:Array Oper):Nat->Nat->Nat->Bool
 | 0,_,_=>false
 | d+1,j,k=>match ops[j]? with
  | none=>false
  | some o=>o.after.any fun e=>Region.binds md e && (decide (e.on=k) || ZLW md ops d e.on k)
section
variable {P:Program} {ops:Array Oper} {md:Region.Mode} {fr fr':List Dat} {hp:List HObj} {C:List HObj->Prop} {A:List Nat} {ws:List Nat}
theorem ZIa {n:Nat} {listed:Array Bool} (inv:HeadInv md ops n listed):∀ (d j k:Nat),listed.getD j false=true->ZLW md ops d j k=true->listed.getD k false=true:=by
 intro d
 induction d with
 | zero=>intro j k _ h;cases h
 | succ d ih =>
  intro j k hl h
  unfold ZLW at h
  cases ho:ops[j]? with
  | none=>rw [ho] at h;cases h
  | some o =>
   rw [ho] at h
   simp only [Array.any_eq_true'] at h
   obtain ⟨e,he,h2⟩:=h
   simp only [Bool.and_eq_true,Bool.or_eq_true,decide_eq_true_eq] at h2
   have h3:=inv.closed j o ho hl e he h2.1
   rcases h2.2 with h4|h4
   ·rw [<- h4];exact h3
   ·exact ih _ _ h3 h4
theorem ZJa {n:Nat} {listed:Array Bool} (inv:HeadInv md ops n listed) {d j k:Nat} (hr:j∈Region.ready md ops listed) (h:ZLW md ops d j k=true):listed.getD k false=true:=by
 obtain ⟨_,o,ho,hall⟩:=mem_ready.1 hr
 cases d with
 | zero=>cases h
 | succ d =>
  unfold ZLW at h
  rw [ho] at h
  simp only [Array.any_eq_true'] at h
  obtain ⟨e,he,h2⟩:=h
  simp only [Bool.and_eq_true,Bool.or_eq_true,decide_eq_true_eq] at h2
  have h3:=hall e he h2.1
  rcases h2.2 with h4|h4
  ·rw [<- h4];exact h3
  ·exact ZIa inv _ _ _ h3 h4
def ZTM (md:Region.Mode) (ops:Array Oper) (A ws:List Nat):Bool:=ws.all fun j=>A.all fun k=>ZLW md ops 6 j k
end
end
section
open Go.RowKit
section
variable {P:Program} {ops:Array Oper} {md:Region.Mode} {fr fr':List Dat} {hp:List HObj} {C:List HObj->Prop} {A:List Nat} {ws:List Nat}
def sOpJ (P:Program) (ops:Array Oper) (C:List HObj->Prop) (A ws:List Nat) (i:Nat) (K:List Dat->List HObj->Prop) (fr:List Dat) (hp:List HObj):Prop :=
 ∃ o,ops[i]?=some o/\((∃ d,(∀ hp',(i∈A->C hp')->SYG P ops hp' o fr d)/\K (ZB fr o.dst d) hp) \/
  (∃ (β:Type) (H:β->List HObj) (D:β->Dat),(i∈ws\/∀ x,C (H x))/\SW P ops hp H D o fr/\∀ x,K (ZB fr o.dst (D x)) (H x)))
def ZF0 (P:Program) (md:Region.Mode) (ops:Array Oper) (C:List HObj->Prop) (A ws:List Nat) (n:Nat) (L:Array Bool->List Dat->List HObj->Prop):Nat->Array Bool->List Dat->List HObj->Prop
 | 0,listed,fr,hp=>L listed fr hp
 | f+1,listed,fr,hp =>
  Region.ready md ops listed≠[]/\∀ i∈Region.ready md ops listed,i<n/\sOpJ P ops C A ws i (ZF0 P md ops C A ws n L f (listed.setIfInBounds i true)) fr hp
theorem ZJG {n i:Nat} {oi:Oper} {di:Dat} {L:Array Bool->List Dat->List HObj->Prop} (hi:ops[i]?=some oi)
  (hs:Region.sinkB md ops n=true) (hc:ZDl md ops n=true) (hn:n<ops.size) (hin:i<n)
  (hdone:∀ listed a c,L listed a c->∀ j∈Region.ready md ops listed,n≤j) :
  ∀ (f:Nat) (listed:Array Bool) (fr:List Dat) (hp:List HObj),HeadInv md ops n listed ->
   (∀ j oj,ops[j]?=some oj->j≠i->listed.getD j true=false->(∀ e∈oj.after,Region.binds md e=true->e.on≠i)->oi.apart ops oj=true) ->
   i∈Region.ready md ops listed->(∀ hp',(i∈A->C hp')->SYG P ops hp' oi fr di) ->
   ZF0 P md ops C A ws n L f (listed.setIfInBounds i true) (ZB fr oi.dst di) hp->ZF0 P md ops C A ws n L (f+1) listed fr hp:=by
 intro f
 induction f with
 | zero =>
  intro listed fr hp inv _ hr hy H
  have hun:=(mem_ready.1 hr).1
  refine ⟨fun h=>(by rw [h] at hr;cases hr),fun j hj=>?_⟩
  have hjn:j<n:=by
   rcases Nat.lt_or_ge j n with h|h
   ·exact h
   ·exact absurd hj (ZCp hs hc hn inv _ i rfl hin hun j h)
  refine ⟨hjn,?_⟩
  by_cases hji:j=i
  ·subst hji;exact ⟨oi,hi,.inl ⟨di,hy,H⟩⟩
  ·have:=hdone _ _ _ H j (ready_mono hj hji)
   omega
 | succ f ih =>
  intro listed fr hp inv hfree hr hy H
  have hun:=(mem_ready.1 hr).1
  refine ⟨fun h=>(by rw [h] at hr;cases hr),fun j hj=>?_⟩
  have hjn:j<n:=by
   rcases Nat.lt_or_ge j n with h|h
   ·exact h
   ·exact absurd hj (ZCp hs hc hn inv _ i rfl hin hun j h)
  refine ⟨hjn,?_⟩
  by_cases hji:j=i
  ·subst hji;exact ⟨oi,hi,.inl ⟨di,hy,H⟩⟩
  ·obtain ⟨oj',hoj',h1⟩:=(H.2 j (ready_mono hj hji)).2
   obtain ⟨hjun,oj,hoj,hall⟩:=mem_ready.1 hj
   have hoo:oj=oj':=by rw [hoj] at hoj';simpa using hoj'
   subst hoo
   have hnot:∀ e∈oj.after,Region.binds md e=true->e.on≠i:=fun e he hb heq=>by
    have h1:=hall e he hb
    rw [heq,getD_both hun] at h1
    cases h1
   obtain ⟨a1,a2,a3⟩:=Oper.apart_spec (hfree j oj hoj hji hjun hnot)
   have hfree':∀ k ok,ops[k]?=some ok->k≠i->(listed.setIfInBounds j true).getD k true=false ->
     (∀ e∈ok.after,Region.binds md e=true->e.on≠i)->oi.apart ops ok=true:=fun k ok hk hki hun hno=>by
    refine hfree k ok hk hki ?_ hno
    by_cases hjk:j=k
    ·subst hjk;exact hjun
    ·rw [getD_set_ne true hjk] at hun;exact hun
   have key:∀ (d:Dat) (hp':List HObj),ZF0 P md ops C A ws n L f ((listed.setIfInBounds i true).setIfInBounds j true) (ZB (ZB fr oi.dst di) oj.dst d) hp' ->
     ZF0 P md ops C A ws n L (f+1) (listed.setIfInBounds j true) (ZB fr oj.dst d) hp':=fun d hp' hk=>by
    refine ih (listed.setIfInBounds j true) (ZB fr oj.dst d) hp' (inv.set hj hjn) hfree' (ready_mono hr (Ne.symm hji)) (fun c hc=>(hy c hc).same (ZAA _ _ _) fun t ht=>ZAR fun e=>a3 t e ht) ?_
    rw [Array.setIfInBounds_comm _ _ hji,<- ZDC fr di d a2]
    exact hk
   refine ⟨oj,hoj,?_⟩
   rcases h1 with ⟨d,hs',hk⟩|⟨β,H',D,hw0,hw,hk⟩
   ·exact .inl ⟨d,fun c hc=>(hs' c hc).same (ZAA _ _ _).symm fun t ht=>(ZAR fun e=>a1 t e ht).symm,key _ _ hk⟩
   ·exact .inr ⟨β,H',D,hw0,hw.same (ZAA _ _ _).symm fun t ht=>(ZAR fun e=>a1 t e ht).symm,fun x=>key _ _ (hk x)⟩
inductive WMj (P:Program) (ops:Array Oper) (C:List HObj->Prop) (A ws:List Nat) (Q:List Dat->List HObj->Prop):List (Nat × Bool)->List Dat->List HObj->Prop
 | nil {fr:List Dat} {hp:List HObj}:Q fr hp->WMj P ops C A ws Q [] fr hp
 | read {i:Nat} {o:Oper} {r:List (Nat × Bool)} {fr:List Dat} {hp:List HObj} {d:Dat}:ops[i]?=some o->(∀ hp',(i∈A->C hp')->SYG P ops hp' o fr d)->WMj P ops C A ws Q r (ZB fr o.dst d) hp->WMj P ops C A ws Q ((i,false)::r) fr hp
 | write {i:Nat} {o:Oper} {r:List (Nat × Bool)} {fr:List Dat} {hp:List HObj} {β:Type} {H:β->List HObj} {D:β->Dat}:ops[i]?=some o->(i∈ws\/∀ x,C (H x))->SW P ops hp H D o fr->(∀ x,WMj P ops C A ws Q r (ZB fr o.dst (D x)) (H x))->WMj P ops C A ws Q ((i,true)::r) fr hp
theorem ZEk {n:Nat} {Q:List Dat->List HObj->Prop} (hs:Region.sinkB md ops n=true) (hc:ZDl md ops n=true) (hn:n<ops.size) :
  ∀ (l:List (Nat × Bool)) (listed:Array Bool) (fr:List Dat) (hp:List HObj),HeadInv md ops n listed->ZL2 md ops n l listed=true->WMj P ops C A ws Q l fr hp ->
  ZF0 P md ops C A ws n (fun listed' f p=>(∀ j∈Region.ready md ops listed',n≤j)/\listed'=l.foldl (fun s p=>s.setIfInBounds p.1 true) listed/\Q f p) l.length listed fr hp
 | [],listed,fr,hp,_,hB,h=>by
  cases h
  rename_i h
  refine ⟨fun j hj=>?_,rfl,h⟩
  simp only [ZL2,List.all_eq_true,decide_eq_true_eq] at hB
  exact hB j hj
 | (i,false)::r,listed,fr,hp,inv,hB,h=>by
  cases h
  rename_i o d ho hy hk
  simp only [ZL2,Bool.and_eq_true,decide_eq_true_eq] at hB
  obtain ⟨⟨⟨hin,hr⟩,hf⟩,hB'⟩:=hB
  have hr':i∈Region.ready md ops listed:=by simpa using hr
  exact ZJG ho hs hc hn hin (fun _ _ _ hL=>hL.1) r.length listed fr hp inv (Region.free_spec ho hf) hr' hy
   (ZEk hs hc hn r _ _ _ (inv.set hr' hin) hB' hk)
 | (i,true)::r,listed,fr,hp,inv,hB,h=>by
  simp only [ZL2,Bool.and_eq_true,decide_eq_true_eq] at hB
  obtain ⟨⟨hin,hr⟩,hB'⟩:=hB
  have hr':i∈Region.ready md ops listed:=by rw [hr];simp
  cases h with
  | write ho hw0 hw hk =>
   refine ⟨fun h0=>(by rw [hr] at h0;cases h0),fun j hj=>?_⟩
   rw [hr] at hj
   cases List.mem_singleton.1 hj
   exact ⟨hin,_,ho,.inr ⟨_,_,_,hw0,hw,fun x=>ZEk hs hc hn r _ _ _ (inv.set hr' hin) hB' (hk x)⟩⟩
theorem ZMc {l:List Oper} {Q:List Dat->List HObj->Prop} {i:Nat} {o:Oper} {r:List (Nat × Bool)} {d:Dat} (ho:l[i]?=some o) (h:∀ hp',SYG P l.toArray hp' o fr d) (k:WMj P l.toArray C A ws Q r (ZB fr o.dst d) hp):WMj P l.toArray C A ws Q ((i,false)::r) fr hp:=WMj.read (by simpa using ho) (fun hp' _=>h hp') k
theorem ZMb {l:List Oper} {Q:List Dat->List HObj->Prop} {i:Nat} {o:Oper} {r:List (Nat × Bool)} {d:Dat} (hi:A.contains i=true) (ho:l[i]?=some o) (h:∀ hp',C hp'->SYG P l.toArray hp' o fr d) (k:WMj P l.toArray C A ws Q r (ZB fr o.dst d) hp):WMj P l.toArray C A ws Q ((i,false)::r) fr hp:=WMj.read (by simpa using ho) (fun hp' hc=>h hp' (hc (by simpa using hi))) k
theorem ZLP {l:List Oper} {Q:List Dat->List HObj->Prop} {i:Nat} {o:Oper} {r:List (Nat × Bool)} {β:Type} {H:β->List HObj} {D:β->Dat} (ho:l[i]?=some o) (h:SW P l.toArray hp H D o fr) (hc:∀ x,C (H x)) (k:∀ x,WMj P l.toArray C A ws Q r (ZB fr o.dst (D x)) (H x)):WMj P l.toArray C A ws Q ((i,true)::r) fr hp:=WMj.write (by simpa using ho) (.inr hc) h k
end
end
section
open Go.RowKit
section
variable {P:Program} {ops:Array Oper} {md:Region.Mode} {C:List HObj->Prop} {A ws:List Nat}
theorem ZBo {n g:Nat} {L:Array Bool->List Dat->List HObj->Prop} {Q':Exit->Act->World->Prop} {P0:Nat->Prop} {B:Nat} {w0:World} (hW:ZTM md ops A ws=true):∀ (f:Nat) (listed:Array Bool) (fr:List Dat) (hp:List HObj) (a:Act) (w:World),HeadInv md ops n listed->((∃ k∈A,listed.getD k false=false)->C hp)->Hp P0 B w0 hp w->Fr (Imm P0 B hp) w a fr ->
  (∀ listed fr hp a w',Hp P0 B w0 hp w'->Fr (Imm P0 B hp) w' a fr->L listed fr hp->wpAnyIn Fence.wide 0 P md ops Q' g listed a w')->ZF0 P md ops C A ws n L f listed fr hp->wpAnyIn Fence.wide 0 P md ops Q' (f+g) listed a w
 | 0,listed,fr,hp,a,w,_,_,hh,hf,hL,h=>by rw [Nat.zero_add];exact hL _ _ _ _ _ hh hf h
 | f+1,listed,fr,hp,a,w,inv,hc,hh,hf,hL,h=>by
  rw [show f+1+g=(f+g)+1 by omega]
  refine ⟨fun h0=>absurd h0 h.1,fun i hi=>?_⟩
  obtain ⟨o,ho,h1⟩:=(h.2 i hi).2
  have hin:=(h.2 i hi).1
  have inv':=inv.set hi hin
  unfold wpOpIn
  simp only [ho]
  have hgrow:∀ k,(listed.setIfInBounds i true).getD k false=false->listed.getD k false=false:=fun k hk=>by
   cases q:listed.getD k false with
   | false=>rfl
   | true=>rw [getD_set_true q] at hk;cases hk
  rcases h1 with ⟨d,hs,hk⟩|⟨β,H,D,hw0,hw,hk⟩
  ·have hci:i∈A->C hp:=fun q=>hc ⟨i,q,getD_both (mem_ready.1 hi).1⟩
   have:=(hs hp hci).step (Q:=Q') hh hf (K:=wpAnyIn Fence.wide 0 P md ops Q' (f+g) (listed.setIfInBounds i true)) fun a' w' e hf'=>ZBo hW f _ _ hp _ _ inv' (fun ⟨k,q1,q2⟩=>hc ⟨k,q1,hgrow k q2⟩) (hh.ext e) hf' hL hk
   split
   ·rename_i hw;rw [if_pos hw] at this;exact I.ZBg this
   ·rename_i hw;rw [if_neg hw] at this;exact ⟨fun _ _=>trivial,this⟩
  ·have hwant:Region.wanted o (yielded ops a.tmps)=true:=by simp [Region.wanted,hw.guard]
   rw [if_pos hwant]
   refine I.ZBg (hw.out hh (hf.on _) _ _ fun x v w' hh' hrd hd=>ZBo hW f _ _ (H x) _ _ inv' (fun ⟨k,q1,q2⟩=>?_) hh' (Fr.put (hf.mono fun d u hu=>hrd d u hu) hd) hL (hk x))
   rcases hw0 with hw0|hw0
   ·have h5:=List.all_eq_true.1 (List.all_eq_true.1 hW i hw0) k q1
    have h6:=ZJa inv hi h5
    rw [hgrow k q2] at h6
    cases h6
   ·exact hw0 x
end
section
variable {P:Program} {l:Nat} {Q:ZAE} {fr:List Dat} {hp:List HObj}
theorem WR.drawJ {id:Nat} {ops:List Oper} (C:List HObj->Prop) (n m:Nat) (A ws:List Nat) (ord:List (Nat × Bool)) (S:List Bool) (hm:P.follows .mixedOrders=true)
  (hB:(decide (n<ops.toArray.size) && Region.sinkB .any ops.toArray n && ZDl .any ops.toArray n && ZL2 .any ops.toArray n ord (Array.replicate ops.toArray.size false) && ZTM .any ops.toArray A ws)=true) (hS:ord.foldl (fun s p=>s.setIfInBounds p.1 true) (Array.replicate ops.toArray.size false)=S.toArray) (hlen:ops.length=ord.length+m)
  (hq:Region.seqB .any ops.toArray m ord.length S.toArray=true) (hd:NoDef ops) (hC:C hp)
  (h:WMj P ops.toArray C A ws (fun f p=>I.WL P ops.toArray Q (ops.drop ord.length) f p) ord fr hp):WR P l Q (.region id ops.toArray true) fr hp:=by
 refine WR.of fun P0 B w0 w a hh hf=>?_
 simp only [Bool.and_eq_true,decide_eq_true_eq] at hB
 obtain ⟨⟨⟨⟨hn,hs⟩,hc⟩,hord⟩,hW⟩:=hB
 have inv0:HeadInv .any ops.toArray n (Array.replicate ops.toArray.size false) :=
  ⟨by simp,fun j oj _ hl=>(by rw [getD_replicate_false] at hl;cases hl),fun t _ ht=>getD_in (by simpa using ht) (getD_replicate_false _ _)⟩
 have HW:=ZEk (A:=A) (ws:=ws) hs hc hn ord _ fr hp inv0 hord h
 have hx:Ext w { w with drawn:=w.drawn+1 }:=(Ext.refl w).drew
 have hdl:(ops.drop ord.length).length=m:=by simp;omega
 refine wpIn_region_any (n:=0) hm (ZBv (fun o ho c=>hd.at o (by simpa using ho) c) ?_)
 have:=ZBo (Q':=ZCN Q P0 B w0) (g:=m) hW _ _ _ hp _ _ inv0 (fun _=>hC) (hh.ext hx) (hf.ext hx) (fun listed' fr' hp' a' w' hh' hf' hL=>by
  rw [hL.2.1,hS]
  have:=I.ZBc (md:=.any) (Q':=ZCN Q P0 B w0) (ops.drop ord.length) ord.length S.toArray a' w' (fun j=>by simp [List.getElem?_drop]) (by rw [hdl];exact hq) (hL.2.2.on hh' hf')
  rwa [hdl] at this) HW
 rw [show ops.toArray.size=ord.length+m by simpa using hlen]
 rw [show (ops.toArray.size)=ord.length+m by simpa using hlen] at this
 exact this
end
end
end Go.Proofs.YtokmalofdapffaaGreat
