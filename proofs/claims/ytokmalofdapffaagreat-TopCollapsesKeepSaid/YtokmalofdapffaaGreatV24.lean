/- Part 24: walks by contracts, and plain laws. -/
import Derived.Test.YtokmalofdapffaaGreatV21
set_option linter.unusedVariables false
set_option linter.unusedSimpArgs false
set_option linter.unusedSectionVars false
set_option maxRecDepth 100000
set_option maxHeartbeats 4000000
namespace Go.Proofs.YtokmalofdapffaaGreat
section
open Go.RowKit
structure YStepE (P:Program) (l:Nat) {α:Type} (D:α->Dat) (J E:List α->List HObj->Prop) (N:Nat):Prop where
 out:∀ (P0:Nat->Prop) (B:Nat) (w0:World) (hp:List HObj) (pre:List α) (js:List HObj) (x:α) (u:Value) (W:World),pre.length<N->J pre js->Hp P0 B w0 (js++hp) W->(D x).rd (Imm P0 B (js++hp)) W u ->
  YieldAt Fence.wide 0 P l #[u] W fun e W'=>∃ b:Bool,e = .returned (.bool b)/\∃ js',(if b=true then J (pre++[x]) js' else E (pre++[x]) js')/\Hp P0 B w0 (js'++hp) W'
structure SeqE (P:Program) (gf:FuncId) (lb:List Value) (hk:List HObj) {α:Type} (D:α->Dat) (xs:List α):Prop where
 out:∀ (l:Nat) (J E:List α->List HObj->Prop),YStepE P l D J E xs.length->∀ js,J [] js->CallC P gf (dX (.func (.yield l) #[] #[])::lb.map dX) (js++hk) (fun _ hp2=>∃ js',(J xs js'\/∃ pre x t,xs=pre++x::t/\E (pre++[x]) js')/\hp2=js'++hk)
theorem CallC.monoK {P:Program} {f:FuncId} {ds:List Dat} {hp1:List HObj} {K K':Dat->List HObj->Prop} (h:CallC P f ds hp1 K) (k:∀ d hp2,K d hp2->K' d hp2):CallC P f ds hp1 K' :=
 ⟨fun P0 B w0 hp vs W hh hl hv=>(h.out P0 B w0 hp vs W hh hl hv).mono fun _ _ ⟨v,d,hp2,e,hk,r⟩=>⟨v,d,hp2,e,k d hp2 hk,r⟩⟩
theorem ZJK {F:Fence} {m:Nat} {P:Program} {l:Nat} {args:Array Value} {W:World} {R R':Ending->World->Prop} (h:YieldAt F m P l args W R) (k:∀ e w,R e w->R' e w):YieldAt F m P l args W R':=by
 obtain ⟨fn,tmps,assign,body,hrun,hR⟩:=h
 exact ⟨fn,tmps,assign,body,hrun,hR.mono k⟩
theorem SeqE.seq {P:Program} {gf:FuncId} {lb:List Value} {hk:List HObj} {α:Type} {D:α->Dat} {xs:List α} (h:SeqE P gf lb hk D xs):SeqC P gf lb hk D xs:=⟨fun l J hY js hj =>
 (h.out l J (fun _ _=>False) ⟨fun P0 B w0 hp pre js x u W hn hj hh hu=>ZJK (hY.out P0 B w0 hp pre js x u W hn hj hh hu) fun _ _ ⟨he,js',hj',hh'⟩=>⟨true,he,js',hj',hh'⟩⟩ js hj).monoK fun _ _ ⟨js',h1,h2⟩=>⟨js',h1.elim id fun ⟨_,_,_,_,h3⟩=>h3.elim,h2⟩⟩
namespace I
section
variable {P:Program} {ops:Array Oper} {hp:List HObj} {fr:List Dat} {Q:ZAE} {rest:List Oper} {dst:Option Tmp} {ty:TypeId} {ps:String} {af:Array Edge} {d:Dat} {c:Code}
theorem ZLz {l:Nat} {α:Type} {D:α->Dat} {J E:List α->List HObj->Prop} {t:Tmp} {x:Operand} {ats:Array TypeId} {pre:List α} {js:List HObj} {y:α} {N:Nat} {g:Option (Nat × Bool)} (hy:YStepE P l D J E N) (hn:pre.length<N) (hj:J pre js) (ht:OpD fr (.tmp t) (dX (.func (.yield l) #[] #[]))) (hx:OpD fr x (D y))
  {P0:Nat->Prop} {B:Nat} {w0 w:World} {a:Act} (hh:Hp P0 B w0 (js++hp) w) (hf:Fr (Imm P0 B (js++hp)) w a fr) {K:Act->World->Prop} {Q:Exit->Act->World->Prop}
  (h:∀ (b:Bool) js' a' w',(if b=true then J (pre++[y]) js' else E (pre++[y]) js')->Hp P0 B w0 (js'++hp) w'->Fr (Imm P0 B (js'++hp)) w' a' (ZB fr dst (dB b))->K a' w') :
  Oper.wpIn Fence.wide 0 P ⟨dst,.call { callee:=.value (.tmp t),args:=#[x],argTypes:=ats },ty,ps,af,g⟩ a w K Q:=by
 have hgb:(hFr a fr).blk=none:=rfl
 have hG:Hp P0 B w0 (js++hFr a fr::hp) w:=ZAz hgb hh hf.rd
 have hev:a.eval (.tmp t) = .func (.yield l) #[] #[]:=ht.ev hf
 have hyy:=hy.out P0 B w0 (hFr a fr::hp) pre js y (a.eval x) w hn hj hG ((D y).weak (hx.ev hf) fun k=>(ZAI hgb _ k).2)
 obtain ⟨fn,tmps,assign,body,hrun,hR⟩:=hyy
 refine ⟨fun _ _=>trivial,?_⟩
 have hr:(execOp a.eval ⟨dst,.call { callee:=.value (.tmp t),args:=#[x],argTypes:=ats },ty,ps,af,g⟩).run P w = .ok (.round l fn tmps assign body) w:=by
  unfold execOp
  simp only [resolve]
  simp [hev,Deferred.ofValue,invoke,hrun]
 rw [show Fence.wide.round=none from rfl,Oper.semAt_none,hr]
 refine ⟨fun h=>by simp [Fence.wide] at h,hR.mono fun e W' ⟨b,he,js',hj',hh'⟩=>?_⟩
 subst he
 obtain ⟨hh2,hok2⟩:=hh'.unghost hgb
 exact h b js' _ _ hj' hh2 (Fr.put (⟨hf.defers,hf.size,hok2⟩:Fr (Imm P0 B (js'++hp)) W' a fr) (d:=dB b) rfl)
theorem ZIL {l:Nat} {α:Type} {D:α->Dat} {J E:List α->List HObj->Prop} {t gi s:Nat} {pol:Bool} {x:Operand} {ats:Array TypeId} {pre:List α} {js:List HObj} {y:α} {N:Nat} (hs:(ops[gi]?).bind (·.dst)=some s) (hb:fr[s]?=some (dB pol)) (hy:YStepE P l D J E N) (hn:pre.length<N) (hj:J pre js) (ht:OpD fr (.tmp t) (dX (.func (.yield l) #[] #[]))) (hx:OpD fr x (D y))
  (h:∀ (b:Bool) js',(if b=true then J (pre++[y]) js' else E (pre++[y]) js')->WL P ops Q rest (ZB fr dst (dB b)) (js'++hp)) :
  WL P ops Q (⟨dst,.call { callee:=.value (.tmp t),args:=#[x],argTypes:=ats },ty,ps,af,some (gi,pol)⟩::rest) fr (js++hp):=by
 refine WL.of fun P0 B w0 w a hh hf=>?_
 unfold wpListIn
 have hwant:Region.wanted ⟨dst,Op.call { callee:=.value (.tmp t),args:=#[x],argTypes:=ats },ty,ps,af,some (gi,pol)⟩ (yielded ops a.tmps)=true :=
  (ZBb rfl hs hb rfl).out _ w a (hf.on _)
 rw [if_pos hwant]
 exact ZLz hy hn hj ht hx hh hf fun b js' a' w' hj' hh' hf'=>(h b js' hj').on hh' hf'
end
end I
section
variable {P:Program} {l:Nat} {Q:ZAE} {fr:List Dat} {hp:List HObj}
theorem WR.ret (h:Q .ret fr hp):WR P l Q .ret fr hp:=WR.of fun _ _ _ _ _ hh hf=>wpIn_ret ⟨fr,hp,h,hh,hf⟩
theorem WR.cond {c:Operand} {x y:Code} {b:Bool} (hc:OpD fr c (dB b)) (ht:b=true->WR P l Q x fr hp) (hf:b=false->WR P l Q y fr hp):WR P l Q (.cond c x y) fr hp:=WR.of fun P0 B w0 w a hh hfr=>by
 refine wpIn_cond (t:=b) (hc.ev hfr) ?_
 cases b with
 | true=>exact (ht rfl).out _ _ _ _ _ hh hfr
 | false=>exact (hf rfl).out _ _ _ _ _ hh hfr
theorem ZSU {c:Code} {d:Dat} {v:Value} (t:Nat) (ht:fr[t]?=some (dX v)) (hm:ZAW v d∈hp) (h:WR P l Q c (fr.set t d) hp):WR P l Q c fr hp:=WR.of fun P0 B w0 w a hh hf=>by
 refine h.out _ _ _ _ _ hh ⟨hf.defers,by rw [hf.size,List.length_set],fun t' d' hd'=>?_⟩
 by_cases htt:t=t'
 ·subst htt
  rw [List.getElem?_set] at hd'
  simp only [if_true] at hd'
  split at hd'
  ·cases hd'
   have h1:a.tmps.getD t undef=v:=hf.rd t _ ht
   rw [h1]
   exact hh.ok _ hm
  ·cases hd'
 ·rw [List.getElem?_set_ne htt] at hd'
  exact hf.rd t' d' hd'
end
theorem ZOe {P:Program} {g:Operand} {p:Tmp} {assign body:Code} {Q:Exit->Act->World->Prop} {P0:Nat->Prop} {B:Nat} {w0 w:World} {a:Act} {fr:List Dat} {gf:FuncId} {lb:List Value} {hk hp hs0:List HObj} {α:Type} {D:α->Dat} {xs:List α} (H HE:List α->List HObj->Prop) (F0:List Dat) (F1:α->List Dat)
  (hh:Hp P0 B w0 (hs0++(hk++hp)) w) (hf:Fr (Imm P0 B (hs0++(hk++hp))) w a fr) (hg:OpD fr g (dX (.func (.func gf) #[] lb.toArray))) (he:ZAw P gf) (hS:SeqE P gf lb hk D xs) (h0:H [] hs0) (hF:FixF fr F0)
  (hassign:∀ (l:Nat) (x:α) (q:List HObj),WR P l (fun e f q'=>e = .normal/\q'=q/\f=F1 x) assign (F0.set p (D x)) q)
  (hbody:∀ (l:Nat) (pre:List α) (x:α) (hs q:List HObj),pre.length<xs.length->H pre hs->WR P l (fun e _ q'=>(e = .normal/\∃ hs',H (pre++[x]) hs'/\q'=hs'++q)\/(e = .ret/\∃ hs',HE (pre++[x]) hs'/\q'=hs'++q)) body (F1 x) (hs++q))
  (hpost:∀ (k:Nat) (hs:List HObj) (w':World),H xs hs->Hp P0 B w0 (Z2 k (.deferred (some []))::(hs++(hk++hp))) w'->(∀ (t:Nat) (d:Dat),fr[t]?=some d->d.rd (Imm P0 B (Z2 k (.deferred (some []))::(hs++(hk++hp)))) w' (a.tmps.getD t undef)) ->
   Q .normal { a with defers:={ target:=.collected k,args:=#[] }::a.defers } w')
  (hstop:∀ (k:Nat) (pre:List α) (x:α) (t:List α) (hs:List HObj) (w':World),xs=pre++x::t->HE (pre++[x]) hs->Hp P0 B w0 (Z2 k (.deferred (some []))::(hs++(hk++hp))) w'->(∀ (t:Nat) (d:Dat),fr[t]?=some d->d.rd (Imm P0 B (Z2 k (.deferred (some []))::(hs++(hk++hp)))) w' (a.tmps.getD t undef)) ->
   Q .ret { a with defers:={ target:=.collected k,args:=#[] }::a.defers } w'):(Code.rangeFunc g #[p] assign body).wp P Q a w:=by
 refine (wpIn_wide (n:=0)).1 (wpIn_rangeFunc ?_)
 intro fn hfn
 rw [show Fence.wide.round=none from rfl]
 obtain ⟨rec,hrec⟩:∃ rec:LoopState->Option Code->Loop,rec=fun st pe=>{ state:=st,pending:=pe,fn,tmps:=a.tmps,params:=#[p],assign,body,defers:=w.heap.size }:=⟨_,rfl⟩
 obtain ⟨W1,hW1⟩:∃ W1,(w.alloc (.deferred (some []))).alloc (.loop (rec .ready none))=W1:=⟨_,rfl⟩
 have hgb:(hFr a fr).blk=none:=rfl
 have hG:Hp P0 B w0 (hs0++(hk++(hFr a fr::hp))) w:=by
  have:=ZAz (l:=hs0++hk) (hp:=hp) hgb (by rw [List.append_assoc];exact hh) (by rw [List.append_assoc];exact hf.rd)
  rw [List.append_assoc] at this
  exact this
 have hA:Hp P0 B w0 (Z2 w.heap.size (.deferred (some []))::(hs0++(hk++(hFr a fr::hp)))) (w.alloc (.deferred (some []))) :=
  hG.push (Ext.of_alloc _ _) (fun k hk=>by cases hk;simp) (World.alloc_heap_new w _)
 have hB:Hp P0 B w0 (Z2 (w.heap.size+1) (.loop (rec .ready none))::Z2 w.heap.size (.deferred (some []))::(hs0++(hk++(hFr a fr::hp)))) W1:=by
  rw [<- hW1]
  refine hA.push (Ext.of_alloc _ _) (fun k hk=>by cases hk;simp) ?_
  have:=World.alloc_heap_new (w.alloc (.deferred (some []))) (.loop (rec .ready none))
  rwa [World.size_alloc] at this
 have hJ0:(∃ hs,H [] hs/\(Z2 (w.heap.size+1) (.loop (rec .ready none))::Z2 w.heap.size (.deferred (some []))::hs0)=Z2 (w.heap.size+1) (.loop (rec .ready none))::Z2 w.heap.size (.deferred (some []))::hs):=⟨hs0,h0,rfl⟩
 have hY:YStepE P (w.heap.size+1) D (fun pre js=>∃ hs,H pre hs/\js=Z2 (w.heap.size+1) (.loop (rec .ready none))::Z2 w.heap.size (.deferred (some []))::hs)
   (fun pre js=>∃ hs,HE pre hs/\js=Z2 (w.heap.size+1) (.loop (rec .done (some .ret)))::Z2 w.heap.size (.deferred (some []))::hs) xs.length:=⟨fun P0' B' w0' hpX pre js x u W hlt ⟨hs,hH,hjs⟩ hhW hu=>by
  subst hjs
  have hl:W.heap[w.heap.size+1]?=some (.loop (rec .ready none)):=hhW.ok (Z2 (w.heap.size+1) (.loop (rec .ready none))) (by simp)
  have hy:=run_yield (P:=P) (args:=#[u]) hl (by rw [hrec];simp)
  refine ⟨_,_,_,_,hy,roundIn_of_wpIn trivial ?_⟩
  have ha:(rec .ready none).assign=assign:=by rw [hrec]
  have hbd:(rec .ready none).body=body:=by rw [hrec]
  have ht:(rec .ready none).params=#[p]:=by rw [hrec]
  have htm:(rec .ready none).tmps=a.tmps:=by rw [hrec]
  rw [ha,hbd,ht,htm]
  have hfrR:Fr (Imm P0' B' (Z2 (w.heap.size+1) (.loop (rec .ready none))::Z2 w.heap.size (.deferred (some []))::hs++hpX)) W { tmps:=a.tmps.setIfInBounds p u,defers:=[] } (F0.set p (D x)) :=
   Fr.put (x:=some p) (hF.fr hf) hu
  refine wpIn_mono (Q:=ZCN (fun e f q'=>e = .normal/\q'=Z2 (w.heap.size+1) (.loop (rec .ready none))::Z2 w.heap.size (.deferred (some []))::hs++hpX/\f=F1 x) P0' B' w0') ?_ ?_
  ·exact (hassign (w.heap.size+1) x _).out P0' B' w0' W _ hhW (by simpa using hfrR)
  rintro e a1 w1 ⟨f1,q1,⟨rfl,rfl,rfl⟩,hh1,hf1⟩
  have hl1:w1.heap[w.heap.size+1]?=some (.loop (rec .ready none)):=hh1.ok (Z2 (w.heap.size+1) (.loop (rec .ready none))) (by simp)
  refine ⟨_,run_beginRound hl1 (by rw [hrec]),?_⟩
  have hbz:({ rec .ready none with state:=.busy }:Loop)=rec .busy none:=by rw [hrec]
  rw [hbz]
  have hh2:Hp P0' B' w0' (Z2 (w.heap.size+1) (.loop (rec .busy none))::(Z2 w.heap.size (.deferred (some []))::(hs++hpX))) (w1.putObj (w.heap.size+1) (.loop (rec .busy none))):=Hp.putObj (o:=.loop (rec .ready none)) hh1
  have hf2:Fr (Imm P0' B' (Z2 (w.heap.size+1) (.loop (rec .busy none))::(Z2 w.heap.size (.deferred (some []))::(hs++hpX)))) (w1.putObj (w.heap.size+1) (.loop (rec .busy none))) a1 (F1 x):=hf1.mono fun d v hd=>ZAO (o:=.loop (rec .ready none)) hd
  obtain ⟨hh3,hI3⟩:=hh2.perm ZBG
  refine wpIn_mono ((hbody (w.heap.size+1) pre x hs _ hlt hH).out P0' B' w0' _ _ hh3 (hf2.mono fun d v hd=>d.weak hd fun k hk=>(hI3 k).1 hk)) ?_
  rintro e a3 w3 ⟨f3,q3,hcase,hh4,hf4⟩
  rcases hcase with ⟨rfl,hs',hH',rfl⟩|⟨rfl,hs',hH',rfl⟩
  ·obtain ⟨hh5,_⟩:=hh4.perm ZBG.symm
   have hl3:w3.heap[w.heap.size+1]?=some (.loop (rec .busy none)):=hh5.ok (Z2 (w.heap.size+1) (.loop (rec .busy none))) (by simp)
   have hrz:({ rec .busy none with state:=if (none:Option Code).isNone then .ready else .done,pending:=none }:Loop)=rec .ready none:=by rw [hrec];rfl
   have hend:=run_endRound (P:=P) none hl3
   rw [hrz] at hend
   exact ⟨_,_,hend,true,rfl,_,⟨hs',hH',rfl⟩,Hp.putObj (o:=.loop (rec .busy none)) hh5⟩
  ·obtain ⟨hh5,_⟩:=hh4.perm ZBG.symm
   have hl3:w3.heap[w.heap.size+1]?=some (.loop (rec .busy none)):=hh5.ok (Z2 (w.heap.size+1) (.loop (rec .busy none))) (by simp)
   have hrz:({ rec .busy none with state:=if (some Code.ret).isNone then .ready else .done,pending:=some .ret }:Loop)=rec .done (some .ret):=by rw [hrec];rfl
   have hend:=run_endRound (P:=P) (some .ret) hl3
   rw [hrz] at hend
   exact ⟨_,_,hend,false,rfl,_,⟨hs',hH',rfl⟩,Hp.putObj (o:=.loop (rec .busy none)) hh5⟩⟩
 have hC:=(hS.out (w.heap.size+1) _ _ hY _ hJ0).out P0 B w0 (hFr a fr::hp) (.func (.yield (w.heap.size+1)) #[] #[]::lb) W1 (by simpa using hB) (by simp) (fun i d hd=>by
  cases i with
  | zero=>simp at hd;subst hd;rfl
  | succ i =>
   simp only [List.getElem?_cons_succ,List.getElem?_map] at hd
   cases hq:lb[i]? with
   | none=>rw [hq] at hd;cases hd
   | some u=>rw [hq] at hd;cases hd;simp [List.getD,hq];rfl)
 refine ⟨w.heap.size+1,[{ target:=.collected w.heap.size,args:=#[] }],W1,{ target:=.fn (.func gf) lb.toArray,args:=#[.func (.yield (w.heap.size+1)) #[] #[]] },W1,gf,
  (.func (.yield (w.heap.size+1)) #[] #[]::lb).toArray,W1,?_,?_,fun _ _=>trivial,?_,fun h=>by simp [Fence.wide] at h,?_⟩
 ·rw [<- hW1,hrec];exact run_enterLoop_outer _ _ _ _ _
 ·have hev:a.eval g = .func (.func gf) #[] lb.toArray:=hg.ev hf
  simp only [resolve,hev]
  simp [go_sem]
 ·have:=he (.func (.yield (w.heap.size+1)) #[] #[]::lb).toArray W1
  simp [invoke,go_sem,this]
 ·refine callsIn_wide.2 (hC.mono ?_)
  rintro e w2 ⟨v,d,hp2,rfl,⟨js',hor,rfl⟩,hh2,_⟩
  rcases hor with ⟨hs,hH,rfl⟩|⟨pre,x,t,hxs,hs,hH,rfl⟩
  ·have hl2:w2.heap[w.heap.size+1]?=some (.loop (rec .ready none)):=hh2.ok (Z2 (w.heap.size+1) (.loop (rec .ready none))) (by simp)
   have hend:=run_endLoop (P:=P) hl2 (by rw [hrec];simp)
   have hpn:(rec .ready none).pending=none:=by rw [hrec]
   obtain ⟨rx,hrx⟩:∃ rx:Loop,rx={ rec .ready none with state:=.exhausted }:=⟨_,rfl⟩
   rw [<- hrx,hpn] at hend
   refine ⟨none,_,hend,?_⟩
   have hh3:Hp P0 B w0 (Z2 (w.heap.size+1) (.loop rx)::(Z2 w.heap.size (.deferred (some []))::(hs++(hk++(hFr a fr::hp))))) (w2.putObj (w.heap.size+1) (.loop rx)) :=
    Hp.putObj (o:=.loop (rec .ready none)) (by simpa using hh2)
   have hh4:=hh3.drop
   have hh5:Hp P0 B w0 ((Z2 w.heap.size (.deferred (some []))::(hs++hk))++hFr a fr::hp) (w2.putObj (w.heap.size+1) (.loop rx)):=by simpa using hh4
   obtain ⟨hh6,hok⟩:=hh5.unghost hgb
   have e1:(Z2 w.heap.size (.deferred (some []))::(hs++hk))++hp=Z2 w.heap.size (.deferred (some []))::(hs++(hk++hp)):=by simp
   rw [e1] at hh6 hok
   have:=hpost w.heap.size hs _ hH hh6 hok
   simpa using this
  ·have hl2:w2.heap[w.heap.size+1]?=some (.loop (rec .done (some .ret))):=hh2.ok (Z2 (w.heap.size+1) (.loop (rec .done (some .ret)))) (by simp)
   have hend:=run_endLoop (P:=P) hl2 (by rw [hrec];simp)
   have hpn:(rec .done (some .ret)).pending=some .ret:=by rw [hrec]
   obtain ⟨rx,hrx⟩:∃ rx:Loop,rx={ rec .done (some .ret) with state:=.exhausted }:=⟨_,rfl⟩
   rw [<- hrx,hpn] at hend
   refine ⟨some .ret,_,hend,?_⟩
   have hh3:Hp P0 B w0 (Z2 (w.heap.size+1) (.loop rx)::(Z2 w.heap.size (.deferred (some []))::(hs++(hk++(hFr a fr::hp))))) (w2.putObj (w.heap.size+1) (.loop rx)) :=
    Hp.putObj (o:=.loop (rec .done (some .ret))) (by simpa using hh2)
   have hh4:=hh3.drop
   have hh5:Hp P0 B w0 ((Z2 w.heap.size (.deferred (some []))::(hs++hk))++hFr a fr::hp) (w2.putObj (w.heap.size+1) (.loop rx)):=by simpa using hh4
   obtain ⟨hh6,hok⟩:=hh5.unghost hgb
   have e1:(Z2 w.heap.size (.deferred (some []))::(hs++hk))++hp=Z2 w.heap.size (.deferred (some []))::(hs++(hk++hp)):=by simp
   rw [e1] at hh6 hok
   have:=hstop w.heap.size pre x t hs _ hxs hH hh6 hok
   refine wpIn_ret ?_
   simpa using this
end
end Go.Proofs.YtokmalofdapffaaGreat
namespace Go.Proofs.YtokmalofdapffaaGreat.L05
section
def plus:List Int->List Int->List Int
 | [],b=>b
 | x::a,[]=>x::a
 | x::a,y::b=>if x<y then x::plus a (y::b) else if y<x then y::plus (x::a) b else plus a b
termination_by a b=>a.length+b.length
abbrev Asc (a:List Int):Prop:=a.Pairwise (· < ·)
theorem plus_nil (a:List Int):plus a []=a:=by cases a <;> rw [plus]
theorem nil_plus (a:List Int):plus [] a=a:=by rw [plus]
theorem ZSB {c:Int}:∀ (n:Nat) (a b:List Int),a.length+b.length≤n->(∀ x∈a,c<x)->(∀ x∈b,c<x)->∀ x∈plus a b,c<x:=by
 intro n
 induction n with
 | zero =>
  intro a b hn ha hb x hx
  have h1:a=[]:=List.length_eq_zero_iff.1 (by omega)
  subst h1
  rw [nil_plus] at hx;exact hb x hx
 | succ n ih =>
  intro a b hn ha hb x hx
  match a,b,hn,ha,hb,hx with
  | [],b,_,_,hb,hx=>rw [nil_plus] at hx;exact hb x hx
  | y::a,[],_,ha,_,hx=>rw [plus_nil] at hx;exact ha x hx
  | y::a,z::b,hn,ha,hb,hx =>
   rw [plus] at hx
   simp only [List.length_cons] at hn
   split at hx
   ·rcases List.mem_cons.1 hx with rfl|hx
    ·exact ha _ (by simp)
    ·exact ih a (z::b) (by simp only [List.length_cons];omega) (fun w hw=>ha w (by simp [hw])) hb x hx
   ·split at hx
    ·rcases List.mem_cons.1 hx with rfl|hx
     ·exact hb _ (by simp)
     ·exact ih (y::a) b (by simp only [List.length_cons];omega) ha (fun w hw=>hb w (by simp [hw])) x hx
    ·exact ih a b (by omega) (fun w hw=>ha w (by simp [hw])) (fun w hw=>hb w (by simp [hw])) x hx
theorem ZHe {c:Int} {a b:List Int} (ha:∀ x∈a,c<x) (hb:∀ x∈b,c<x):∀ x∈plus a b,c<x:=ZSB _ a b (Nat.le_refl _) ha hb
theorem iffA {p q r:Prop} (h:r->p->False) (h2:r->q->False):(r\/¬ (p↔q))↔¬ ((r\/p)↔q):=by
 by_cases hr:r
 ·have hp:=h hr;have hq:¬ q:=h2 hr
  simp [hr,hq]
 ·simp [hr]
theorem ZKy:∀ (n:Nat) (a b:List Int),a.length+b.length≤n->Asc a->Asc b->Asc (plus a b)/\∀ x,x∈plus a b↔¬ (x∈a↔x∈b):=by
 intro n
 induction n with
 | zero =>
  intro a b hn ha hb
  have h1:a=[]:=List.length_eq_zero_iff.1 (by omega)
  subst h1
  rw [nil_plus]
  exact ⟨hb,fun x=>by simp⟩
 | succ n ih =>
  intro a b hn ha hb
  match a,b,hn,ha,hb with
  | [],b,_,_,hb=>rw [nil_plus];exact ⟨hb,fun x=>by simp⟩
  | y::a,[],_,ha,_=>rw [plus_nil];exact ⟨ha,fun x=>by simp only [List.not_mem_nil,iff_false,Classical.not_not]⟩
  | y::a,z::b,hn,ha,hb =>
   simp only [List.length_cons] at hn
   obtain ⟨ha1,ha2⟩:=List.pairwise_cons.1 ha
   obtain ⟨hb1,hb2⟩:=List.pairwise_cons.1 hb
   rw [plus]
   split
   ·rename_i hyz
    obtain ⟨i1,i2⟩:=ih a (z::b) (by simp only [List.length_cons];omega) ha2 hb
    have hlt:∀ w∈z::b,y<w:=fun w hw=>by
     rcases List.mem_cons.1 hw with rfl|hw
     ·exact hyz
     ·have:=hb1 w hw;omega
    refine ⟨List.pairwise_cons.2 ⟨ZHe ha1 hlt,i1⟩,fun x=>?_⟩
    rw [List.mem_cons,i2 x,List.mem_cons (a:=x) (b:=y)]
    exact iffA (fun e q=>by have:=ha1 x q;omega) (fun e q=>by have:=hlt x q;omega)
   ·rename_i hyz
    split
    ·rename_i hzy
     obtain ⟨i1,i2⟩:=ih (y::a) b (by simp only [List.length_cons];omega) ha hb2
     have hlt:∀ w∈y::a,z<w:=fun w hw=>by
      rcases List.mem_cons.1 hw with rfl|hw
      ·exact hzy
      ·have:=ha1 w hw;omega
     refine ⟨List.pairwise_cons.2 ⟨ZHe hlt hb1,i1⟩,fun x=>?_⟩
     rw [List.mem_cons,i2 x,List.mem_cons (a:=x) (b:=z)]
     have:=iffA (r:=x=z) (p:=x∈b) (q:=x∈y::a) (fun e q=>by have:=hb1 x q;omega) (fun e q=>by have:=hlt x q;omega)
     rw [iff_comm (a:=x∈b),iff_comm (a:=x=z\/x∈b)] at this
     exact this
    ·rename_i hzy
     obtain rfl:y=z:=by omega
     obtain ⟨i1,i2⟩:=ih a b (by omega) ha2 hb2
     refine ⟨i1,fun x=>?_⟩
     rw [i2 x,List.mem_cons,List.mem_cons]
     by_cases hxy:x=y
     ·have h1:¬ x∈a:=fun q=>by have:=ha1 x q;omega
      have h2:¬ x∈b:=fun q=>by have:=hb1 x q;omega
      simp only [hxy,true_or,not_true,iff_false]
      rw [hxy] at h1 h2
      simp only [h1,h2,not_true,not_false_eq_true]
     ·simp only [hxy,false_or]
theorem Z6 {a b:List Int} (ha:Asc a) (hb:Asc b):Asc (plus a b):=(ZKy _ a b (Nat.le_refl _) ha hb).1
theorem ZAN {a b:List Int} (ha:Asc a) (hb:Asc b) {x:Int}:x∈plus a b↔¬ (x∈a↔x∈b):=(ZKy _ a b (Nat.le_refl _) ha hb).2 x
theorem asc_ext:∀ {a b:List Int},Asc a->Asc b->(∀ x,x∈a↔x∈b)->a=b
 | [],[],_,_,_=>rfl
 | [],y::b,_,_,h=>absurd ((h y).2 (by simp)) (by simp)
 | x::a,[],_,_,h=>absurd ((h x).1 (by simp)) (by simp)
 | x::a,y::b,ha,hb,h=>by
  obtain ⟨ha1,ha2⟩:=List.pairwise_cons.1 ha
  obtain ⟨hb1,hb2⟩:=List.pairwise_cons.1 hb
  have hxy:x=y:=by
   rcases List.mem_cons.1 ((h x).1 (by simp)) with e|e
   ·exact e
   ·rcases List.mem_cons.1 ((h y).2 (by simp)) with e'|e'
    ·exact e'.symm
    ·have:=hb1 x e;have:=ha1 y e';omega
  subst hxy
  congr 1
  refine asc_ext ha2 hb2 fun z=>⟨fun hz=>?_,fun hz=>?_⟩
  ·rcases List.mem_cons.1 ((h z).1 (by simp [hz])) with e|e
   ·subst e;have:=ha1 z hz;omega
   ·exact e
  ·rcases List.mem_cons.1 ((h z).2 (by simp [hz])) with e|e
   ·subst e;have:=hb1 z hz;omega
   ·exact e
theorem ZCa {a:List Int} (ha:Asc a):plus a a=[]:=asc_ext (Z6 ha ha) List.Pairwise.nil fun x=>by rw [ZAN ha ha];simp
theorem ZEE {a b:List Int} (ha:Asc a) (hb:Asc b):plus a b=plus b a:=asc_ext (Z6 ha hb) (Z6 hb ha) fun x=>by
 rw [ZAN ha hb,ZAN hb ha]
 exact ⟨fun h q=>h q.symm,fun h q=>h q.symm⟩
theorem ZAg {a b c:List Int} (ha:Asc a) (hb:Asc b) (hc:Asc c):plus (plus a b) c=plus a (plus b c):=asc_ext (Z6 (Z6 ha hb) hc) (Z6 ha (Z6 hb hc)) fun x=>by
 rw [ZAN (Z6 ha hb) hc,ZAN ha (Z6 hb hc),ZAN ha hb,ZAN hb hc]
 by_cases h1:x∈a <;> by_cases h2:x∈b <;> by_cases h3:x∈c <;> simp [h1,h2,h3]
inductive Span (B:List (List Int)):List Int->Prop
 | zero:Span B []
 | add {r v:List Int}:r∈B->Span B v->Span B (plus r v)
abbrev AllAsc (B:List (List Int)):Prop:=∀ r∈B,Asc r
theorem Span.asc {B:List (List Int)} (hB:AllAsc B) {v:List Int} (h:Span B v):Asc v:=by
 induction h with
 | zero=>exact List.Pairwise.nil
 | add hr _ ih=>exact Z6 (hB _ hr) ih
theorem Span.one {B:List (List Int)} {r:List Int} (h:r∈B):Span B r:=by
 have:=Span.add h Span.zero
 rwa [plus_nil] at this
theorem Span.plus {B:List (List Int)} (hB:AllAsc B) {u v:List Int} (hu:Span B u) (hv:Span B v):Span B (plus u v):=by
 induction hu with
 | zero=>rw [nil_plus];exact hv
 | add hr h ih =>
  rw [ZAg (hB _ hr) (h.asc hB) (hv.asc hB)]
  exact Span.add hr ih
theorem Span.trans {B C:List (List Int)} (hC:AllAsc C) (h:∀ r∈B,Span C r) {v:List Int} (hv:Span B v):Span C v:=by
 induction hv with
 | zero=>exact Span.zero
 | add hr _ ih=>exact Span.plus hC (h _ hr) ih
structure Red (B:List (List Int)):Prop where
 asc:AllAsc B
 pos:∀ r∈B,r≠[]
 one:∀ r∈B,∀ s∈B,∀ c,r.head?=some c->c∈s->s=r
theorem head_mem {r:List Int} {c:Int} (h:r.head?=some c):c∈r:=by
 cases r with
 | nil=>cases h
 | cons x r=>simp only [List.head?_cons,Option.some.injEq] at h;simp [h]
theorem ZEb {r:List Int} {c:Int} (hr:Asc r) (h:r.head?=some c):∀ x∈r,c≤x:=by
 cases r with
 | nil=>cases h
 | cons y r =>
  simp only [List.head?_cons,Option.some.injEq] at h
  subst h
  intro x hx
  rcases List.mem_cons.1 hx with rfl|hx
  ·exact Int.le_refl _
  ·exact Int.le_of_lt ((List.pairwise_cons.1 hr).1 x hx)
theorem ZLM {B:List (List Int)} (hB:Red B) {v:List Int} (h:Span B v):∃ S:List (List Int),(∀ r∈S,r∈B)/\S.Nodup/\∀ n,n∈v↔(S.filter fun r=>decide (n∈r)).length % 2=1:=by
 induction h with
 | zero=>exact ⟨[],(fun r hr=>by cases hr),List.nodup_nil,fun n=>by simp⟩
 | @add r v hr hv ih =>
  obtain ⟨S,s1,s2,s3⟩:=ih
  have hm:=fun n=>@ZAN r v (hB.asc r hr) (hv.asc hB.asc) n
  by_cases hrS:r∈S
  ·refine ⟨S.erase r,fun s hs=>s1 s (List.mem_of_mem_erase hs),s2.erase r,fun n=>?_⟩
   rw [hm n,s3 n]
   have hp:=(List.perm_cons_erase hrS).filter (fun r=>decide (n∈r))
   have hl:=hp.length_eq
   rw [List.filter_cons] at hl
   by_cases hn:n∈r
   ·rw [if_pos (by simpa using hn)] at hl
    simp only [List.length_cons] at hl
    simp only [hn,true_iff]
    omega
   ·rw [if_neg (by simpa using hn)] at hl
    simp only [hn,false_iff,Classical.not_not]
    omega
  ·refine ⟨r::S,fun s hs=>?_,List.nodup_cons.2 ⟨hrS,s2⟩,fun n=>?_⟩
   ·rcases List.mem_cons.1 hs with rfl|hs
    ·exact hr
    ·exact s1 s hs
   ·rw [hm n,s3 n,List.filter_cons]
    by_cases hn:n∈r
    ·rw [if_pos (by simpa using hn)]
     simp only [List.length_cons,hn,true_iff]
     omega
    ·rw [if_neg (by simpa using hn)]
     simp only [hn,false_iff,Classical.not_not]
theorem ZJd {S:List (List Int)} (hS:S.Nodup) {r:List Int} {p:List Int->Bool} (hr:r∈S) (hp:p r=true) (ho:∀ s∈S,p s=true->s=r):(S.filter p).length=1:=by
 induction S with
 | nil=>cases hr
 | cons s S ih =>
  obtain ⟨n1,n2⟩:=List.nodup_cons.1 hS
  rw [List.filter_cons]
  by_cases hs:s=r
  ·subst hs
   rw [if_pos hp]
   have:S.filter p=[]:=List.filter_eq_nil_iff.2 fun t ht hpt=>n1 (by have:=ho t (by simp [ht]) hpt;subst this;exact ht)
   rw [this];rfl
  ·have hrS:r∈S:=(List.mem_cons.1 hr).resolve_left fun e=>hs e.symm
   rw [if_neg (fun q=>hs (ho s (by simp) q))]
   exact ih n2 hrS fun t ht=>ho t (by simp [ht])
theorem Red.head {B:List (List Int)} (hB:Red B) {v:List Int} (hv:Span B v) {c:Int} (hc:v.head?=some c):∃ r∈B,r.head?=some c:=by
 obtain ⟨S,s1,s2,s3⟩:=ZLM hB hv
 have hva:=hv.asc hB.asc
 have h1:=(s3 c).1 (head_mem hc)
 cases hf:S.filter (fun r=>decide (c∈r)) with
 | nil=>rw [hf] at h1;simp at h1
 | cons r F =>
  have hrF:r∈S.filter (fun r=>decide (c∈r)):=by rw [hf];simp
  obtain ⟨hrS,hcr⟩:=List.mem_filter.1 hrF
  have hcr:c∈r:=of_decide_eq_true hcr
  have hrB:=s1 r hrS
  obtain ⟨d,hd⟩:∃ d,r.head?=some d:=by
   cases r with
   | nil=>exact absurd rfl (hB.pos _ hrB)
   | cons y r=>exact ⟨y,rfl⟩
  have hdc:=ZEb (hB.asc r hrB) hd c hcr
  have hdv:d∈v:=(s3 d).2 (by
   rw [ZJd s2 hrS (decide_eq_true (head_mem hd)) fun s hs q=>hB.one r hrB s (s1 s hs) d hd (of_decide_eq_true q)])
  have:=ZEb hva hc d hdv
  obtain rfl:d=c:=by omega
  exact ⟨r,hrB,hd⟩
theorem Red.sub {B C:List (List Int)} (hB:Red B) (hC:Red C) (h1:∀ r∈B,Span C r) (h2:∀ r∈C,Span B r):∀ r∈B,r∈C:=by
 intro r hr
 obtain ⟨c,hc⟩:∃ d,r.head?=some d:=by
  cases r with
  | nil=>exact absurd rfl (hB.pos _ hr)
  | cons y r=>exact ⟨y,rfl⟩
 obtain ⟨s,hs,hsc⟩:=hC.head (h1 r hr) hc
 have hra:=hB.asc r hr
 have hsa:=hC.asc s hs
 have hsp:Span C (plus r s):=Span.plus hC.asc (h1 r hr) (Span.one hs)
 cases hp:plus r s with
 | nil =>
  have:r=s:=asc_ext hra hsa fun x=>by
   have:=@ZAN r s hra hsa x
   rw [hp] at this
   simp only [List.not_mem_nil,false_iff,Classical.not_not] at this
   exact this
  subst this;exact hs
 | cons d v =>
  exfalso
  rw [hp] at hsp
  obtain ⟨t,ht,htd⟩:=hC.head hsp (c:=d) rfl
  obtain ⟨u,hu,hud⟩:=hB.head (h2 t ht) htd
  have hd:d∈plus r s:=by rw [hp];simp
  rw [ZAN hra hsa] at hd
  by_cases hdr:d∈r
  ·have e:=hB.one u hu r hr d hud hdr
   subst e
   rw [hc] at hud
   cases hud
   exact hd ⟨fun _=>head_mem hsc,fun _=>hdr⟩
  ·have hds:d∈s:=Classical.byContradiction fun q=>hd ⟨fun h=>absurd h hdr,fun h=>absurd h q⟩
   have e:=hC.one t ht s hs d htd hds
   subst e
   rw [hsc] at htd
   cases htd
   exact hd ⟨fun _=>hds,fun _=>head_mem hc⟩
end
section
def ZHb (a b:List Int):Bool:=decide ((a.filter fun x=>decide (x∈b)).length % 2=1)
theorem ZJe (p:Int->Bool):∀ (n:Nat) (a b:List Int),a.length+b.length≤n->((plus a b).filter p).length % 2=((a.filter p).length+(b.filter p).length) % 2:=by
 intro n
 induction n with
 | zero =>
  intro a b hn
  have h1:a=[]:=List.length_eq_zero_iff.1 (by omega)
  subst h1
  rw [nil_plus];simp
 | succ n ih =>
  intro a b hn
  match a,b,hn with
  | [],b,_=>rw [nil_plus];simp
  | y::a,[],_=>rw [plus_nil];simp
  | y::a,z::b,hn =>
   simp only [List.length_cons] at hn
   rw [plus]
   split
   ·have i1:=ih a (z::b) (by simp only [List.length_cons];omega)
    rw [List.filter_cons,List.filter_cons (x:=y)]
    split <;> (try simp only [List.length_cons]) <;> omega
   ·split
    ·have i1:=ih (y::a) b (by simp only [List.length_cons];omega)
     rw [List.filter_cons,List.filter_cons (x:=z)]
     split <;> (try simp only [List.length_cons]) <;> omega
    ·obtain rfl:y=z:=by omega
     have i1:=ih a b (by omega)
     rw [List.filter_cons,List.filter_cons]
     split <;> (try simp only [List.length_cons]) <;> omega
theorem ZQG (a a' b:List Int):ZHb (plus a a') b=(ZHb a b != ZHb a' b):=by
 unfold ZHb
 have h:=ZJe (fun x=>decide (x∈b)) _ a a' (Nat.le_refl _)
 generalize ((plus a a').filter fun x=>decide (x∈b)).length=p at *
 generalize (a.filter fun x=>decide (x∈b)).length=q at *
 generalize (a'.filter fun x=>decide (x∈b)).length=r at *
 by_cases h1:q % 2=1 <;> by_cases h2:r % 2=1
 ·rw [decide_eq_true h1,decide_eq_true h2,decide_eq_false (by omega)];rfl
 ·rw [decide_eq_true h1,decide_eq_false h2,decide_eq_true (by omega)];rfl
 ·rw [decide_eq_false h1,decide_eq_true h2,decide_eq_true (by omega)];rfl
 ·rw [decide_eq_false h1,decide_eq_false h2,decide_eq_false (by omega)];rfl
abbrev Low (C:Int) (a:List Int):Prop:=∀ x∈a,x<C
theorem plus_low {C:Int} {a b:List Int} (ha:Asc a) (hb:Asc b) (h1:Low C a) (h2:Low C b):Low C (plus a b):=fun x hx=>by
 have:=(ZAN ha hb).1 hx
 by_cases h:x∈a
 ·exact h1 x h
 ·exact h2 x (Classical.byContradiction fun q=>this ⟨fun k=>absurd k h,fun k=>absurd k q⟩)
def wd (C:Int) (r:List Int) (o:Bool):List Int:=if o=true then r++[C] else r
theorem ZOc {C:Int} {r:List Int} {o:Bool} {x:Int}:x∈wd C r o↔x∈r\/(o=true/\x=C):=by
 unfold wd
 cases o <;> simp
theorem ZBq {C:Int} {r:List Int} {o:Bool} (h:Asc r) (hl:Low C r):Asc (wd C r o):=by
 unfold wd
 cases o
 ·exact h
 ·exact List.pairwise_append.2 ⟨h,List.pairwise_singleton _ _,fun x hx y hy=>by rw [List.mem_singleton.1 hy];exact hl x hx⟩
theorem ZSM {C:Int} {r s:List Int} {o p:Bool} (hr:Asc r) (hs:Asc s) (h1:Low C r) (h2:Low C s):wd C (plus r s) (o != p)=plus (wd C r o) (wd C s p):=by
 refine asc_ext (ZBq (Z6 hr hs) (plus_low hr hs h1 h2)) (Z6 (ZBq hr h1) (ZBq hs h2)) fun x=>?_
 rw [ZAN (ZBq hr h1) (ZBq hs h2),ZOc,ZOc,ZOc,ZAN hr hs]
 by_cases hx:x=C
 ·subst hx
  have n1:x∉r:=fun q=>by have:=h1 x q;omega
  have n2:x∉s:=fun q=>by have:=h2 x q;omega
  cases o <;> cases p <;> simp [n1,n2]
 ·simp [hx]
end
end Go.Proofs.YtokmalofdapffaaGreat.L05
