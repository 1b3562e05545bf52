/- Part 15: walks by contracts, and plain laws. -/
import Derived.Test.YtekiljakcngcoaaGreatDoorV14
set_option linter.unusedVariables false
set_option linter.unusedSimpArgs false
set_option linter.unusedSectionVars false
set_option maxRecDepth 100000
set_option maxHeartbeats 4000000
namespace Go.Proofs.YtekiljakcngcoaaGreatDoor
section
open Go.RowKit
theorem ZHN {P:Program} {o:Oper} {a:Act} {w:World} {K:Act->World->Prop} {Q:Exit->Act->World->Prop} {l:Nat} (hd:∀ c,o.op ≠ .defer c) (h:o.wpIn Fence.wide 0 P a w K Q):o.wpIn (Fence.wide.inRound l) 0 P a w K Q:=by
 refine ⟨fun _ _=>trivial,?_⟩
 have h2:=h.2
 rw [show Fence.wide.round=none from rfl,Oper.semAt_none] at h2
 rw [show (Fence.wide.inRound l).round=some l from rfl,Oper.semAt_some l _ _ hd]
 exact h2
theorem ZDt {P:Program} {ops:Array Oper} {Q:Exit->Act->World->Prop} {l:Nat}:∀ {rest:List Oper} {a:Act} {w:World},(∀ o∈rest,∀ c,o.op ≠ .defer c)->wpListIn Fence.wide 0 P ops Q rest a w->wpListIn (Fence.wide.inRound l) 0 P ops Q rest a w
 | [],_,_,_,h=>h
 | o::rest,a,w,hd,h=>by
  have hr:∀ a w,wpListIn Fence.wide 0 P ops Q rest a w->wpListIn (Fence.wide.inRound l) 0 P ops Q rest a w:=fun a w=>ZDt fun o ho=>hd o (List.mem_cons_of_mem _ ho)
  unfold wpListIn at h ⊢
  split at h
  ·rename_i hw
   rw [if_pos hw]
   exact ZHN (hd o (by simp)) (Oper.wpIn_mono hr h)
  ·rename_i hw
   rw [if_neg hw]
   exact ⟨fun _ _=>trivial,hr _ _ h.2⟩
structure WR (P:Program) (l:Nat) (Q:ZAW) (c:Code) (fr:List Dat) (hp:List HObj):Prop where
 of ::
 out:∀ (P0:Nat->Prop) (B:Nat) (w0 w:World) (a:Act),Hp P0 B w0 hp w->Fr (Imm P0 B hp) w a fr->c.wpIn (Fence.wide.inRound l) 0 P (ZCE Q P0 B w0) a w
section
variable {P:Program} {l:Nat} {Q:ZAW} {fr:List Dat} {hp:List HObj}
theorem WR.region {id:Nat} {ops:List Oper} (hd:(ops.all fun o=>match o.op with|.defer _=>false|_=>true)=true) (h:I.WL P ops.toArray Q ops fr hp):WR P l Q (.region id ops.toArray false) fr hp:=WR.of fun _ _ _ _ _ hh hf =>
 wpIn_region_lit (ZDt (fun o ho c hc=>by have:=List.all_eq_true.1 hd o ho;rw [hc] at this;cases this) (h.on hh hf))
theorem WR.seq {x y:Code} (h:WR P l (ThenD (WR P l Q y) Q) x fr hp):WR P l Q (.seq x y) fr hp:=WR.of fun P0 B w0 w a hh hf=>wpIn_seq (wpIn_mono (h.out _ _ _ _ _ hh hf) (fun e a' w' ⟨f,p,q,r,s⟩=>by
 cases e with
 | normal=>exact (q:WR P l Q y f p).out _ _ _ _ _ r s
 | _=>exact ⟨f,p,q,r,s⟩))
theorem WR.skip (h:Q .normal fr hp):WR P l Q .skip fr hp:=WR.of fun _ _ _ _ _ hh hf=>wpIn_skip ⟨fr,hp,h,hh,hf⟩
theorem WR.exit {id:Nat} (h:Q (.exit id) fr hp):WR P l Q (.exit id) fr hp:=WR.of fun _ _ _ _ _ hh hf=>wpIn_exit ⟨fr,hp,h,hh,hf⟩
theorem WR.block {id:Nat} {c:Code} (h:WR P l (InBlockD id Q) c fr hp):WR P l Q (.block id c) fr hp:=WR.of fun P0 B w0 w a hh hf=>wpIn_block (wpIn_mono (h.out _ _ _ _ _ hh hf) (fun e a' w' ⟨f,p,q,r,s⟩=>by
 cases e with
 | exit id' =>
  simp only [Exit.inBlock]
  simp only [InBlockD] at q
  split
  ·rename_i hi;rw [if_pos hi] at q;exact ⟨f,p,q,r,s⟩
  ·rename_i hi;rw [if_neg hi] at q;exact ⟨f,p,q,r,s⟩
 | _=>exact ⟨f,p,q,r,s⟩))
end
inductive FixF:List Dat->List Dat->Prop
 | nil:FixF [] []
 | x {v:Value} {f f':List Dat}:FixF f f'->FixF (dX v::f) (dX v::f')
 | a {d:Dat} {f f':List Dat}:FixF f f'->FixF (d::f) (dA::f')
theorem FixF.out {f f':List Dat} (h:FixF f f'):f.length=f'.length/\∀ (t:Nat) (d:Dat),f'[t]?=some d->(∃ v,f[t]?=some (dX v)/\d=dX v)\/d=dA:=by
 induction h with
 | nil=>exact ⟨rfl,fun t d h=>by simp at h⟩
 | x _ ih =>
  refine ⟨by simp [ih.1],fun t d h=>?_⟩
  cases t with
  | zero=>simp at h;subst h;exact .inl ⟨_,rfl,rfl⟩
  | succ t=>simpa using ih.2 t d (by simpa using h)
 | a _ ih =>
  refine ⟨by simp [ih.1],fun t d h=>?_⟩
  cases t with
  | zero=>simp at h;subst h;exact .inr rfl
  | succ t=>simpa using ih.2 t d (by simpa using h)
theorem FixF.fr {f f':List Dat} (h:FixF f f') {I I':Nat->Prop} {w w':World} {a:Act} (hf:Fr I w a f):Fr I' w' { tmps:=a.tmps,defers:=[] } f' :=
 ⟨rfl,by rw [<- h.out.1];exact hf.size,fun t d hd=>by
  rcases h.out.2 t d hd with ⟨v,h1,rfl⟩|rfl
  ·exact hf.rd t _ h1
  ·trivial⟩
theorem ZFX (w:World) (l:Nat) (o:Obj):w.grownBy (w.putObj l o) (some l):=⟨rfl,rfl,rfl,by simp,fun k _ hk=>World.putObj_heap_other (fun e=>hk (by rw [e]))⟩
theorem Hp.putObj {P0:Nat->Prop} {B:Nat} {w0 w:World} {l:Nat} {o o':Obj} {hp:List HObj} (h:Hp P0 B w0 (ZAt l o::hp) w):Hp P0 B w0 (ZAt l o'::hp) (w.putObj l o'):=by
 have hl:=h.ok (ZAt l o) (by simp)
 exact h.write (o':=ZAt l o') (ZFX w l o') (.inl rfl) (World.putObj_heap_same (Array.getElem?_eq_some_iff.1 hl).1)
theorem ZAg {P0:Nat->Prop} {B:Nat} {w:World} {l:Nat} {o o':Obj} {hp:List HObj} {d:Dat} {v:Value} (hd:d.rd (Imm P0 B (ZAt l o::hp)) w v):d.rd (Imm P0 B (ZAt l o'::hp)) (w.putObj l o') v :=
 ZY (o:=ZAt l o) (o':=ZAt l o') (ZFX w l o') (.inl rfl) hd
theorem ZCd {x y:HObj} {hs hp:List HObj}:(x::y::(hs++hp)).Perm (hs++x::y::hp) :=
 ((List.perm_middle (l₁:=hs) (l₂:=y::hp) (a:=x)).trans (List.Perm.cons x List.perm_middle)).symm
theorem ZEw {P:Program} {g:Operand} {p:Tmp} {assign body:Code} {Q:Exit->Act->World->Prop} {P0:Nat->Prop} {B:Nat} {w0 w:World} {a:Act} {fr:List Dat} {gf:FuncId} {lb:List Value} {hk hp hs0:List HObj} {α:Type} {D:α->Dat} {xs:List α} (H:List α->List HObj->Prop) (F0:List Dat) (F1:α->List Dat)
  (hh:Hp P0 B w0 (hs0++(hk++hp)) w) (hf:Fr (Imm P0 B (hs0++(hk++hp))) w a fr) (hg:OpD fr g (dX (.func (.func gf) #[] lb.toArray))) (he:ZAn P gf) (hS:SeqC P gf lb hk D xs) (h0:H [] hs0) (hF:FixF fr F0)
  (hassign:∀ (l:Nat) (x:α) (q:List HObj),WR P l (fun e f q'=>e = .normal/\q'=q/\f=F1 x) assign (F0.set p (D x)) q)
  (hbody:∀ (l:Nat) (pre:List α) (x:α) (hs q:List HObj),pre.length<xs.length->H pre hs->WR P l (fun e _ q'=>e = .normal/\∃ hs',H (pre++[x]) hs'/\q'=hs'++q) body (F1 x) (hs++q))
  (hpost:∀ (k:Nat) (hs:List HObj) (w':World),H xs hs->Hp P0 B w0 (ZAt k (.deferred (some []))::(hs++(hk++hp))) w'->(∀ (t:Nat) (d:Dat),fr[t]?=some d->d.rd (Imm P0 B (ZAt k (.deferred (some []))::(hs++(hk++hp)))) w' (a.tmps.getD t undef)) ->
   Q .normal { a with defers:={ target:=.collected k,args:=#[] }::a.defers } w'):(Code.rangeFunc g #[p] assign body).wp P Q a w:=by
 refine (wpIn_wide (n:=0)).1 (wpIn_rangeFunc ?_)
 intro fn hfn
 rw [show Fence.wide.round=none from rfl]
 obtain ⟨rec,hrec⟩:∃ rec:LoopState->Option Code->Loop,rec=fun st pe=>{ state:=st,pending:=pe,fn,tmps:=a.tmps,params:=#[p],assign,body,defers:=w.heap.size }:=⟨_,rfl⟩
 obtain ⟨W1,hW1⟩:∃ W1,(w.alloc (.deferred (some []))).alloc (.loop (rec .ready none))=W1:=⟨_,rfl⟩
 have hgb:(hFr a fr).blk=none:=rfl
 have hG:Hp P0 B w0 (hs0++(hk++(hFr a fr::hp))) w:=by
  have:=ZBT (l:=hs0++hk) (hp:=hp) hgb (by rw [List.append_assoc];exact hh) (by rw [List.append_assoc];exact hf.rd)
  rw [List.append_assoc] at this
  exact this
 have hA:Hp P0 B w0 (ZAt w.heap.size (.deferred (some []))::(hs0++(hk++(hFr a fr::hp)))) (w.alloc (.deferred (some []))) :=
  hG.push (Ext.of_alloc _ _) (fun k hk=>by cases hk;simp) (World.alloc_heap_new w _)
 have hB:Hp P0 B w0 (ZAt (w.heap.size+1) (.loop (rec .ready none))::ZAt w.heap.size (.deferred (some []))::(hs0++(hk++(hFr a fr::hp)))) W1:=by
  rw [<- hW1]
  refine hA.push (Ext.of_alloc _ _) (fun k hk=>by cases hk;simp) ?_
  have:=World.alloc_heap_new (w.alloc (.deferred (some []))) (.loop (rec .ready none))
  rwa [World.size_alloc] at this
 have hJ0:(∃ hs,H [] hs/\(ZAt (w.heap.size+1) (.loop (rec .ready none))::ZAt w.heap.size (.deferred (some []))::hs0)=ZAt (w.heap.size+1) (.loop (rec .ready none))::ZAt w.heap.size (.deferred (some []))::hs):=⟨hs0,h0,rfl⟩
 have hY:YStep P (w.heap.size+1) D (fun pre js=>∃ hs,H pre hs/\js=ZAt (w.heap.size+1) (.loop (rec .ready none))::ZAt w.heap.size (.deferred (some []))::hs) xs.length:=⟨fun P0' B' w0' hpX pre js x u W hlt ⟨hs,hH,hjs⟩ hhW hu=>by
  subst hjs
  have hl:W.heap[w.heap.size+1]?=some (.loop (rec .ready none)):=hhW.ok (ZAt (w.heap.size+1) (.loop (rec .ready none))) (by simp)
  have hy:=run_yield (P:=P) (args:=#[u]) hl (by rw [hrec];simp)
  refine ⟨_,_,_,_,hy,roundIn_of_wpIn trivial ?_⟩
  have ha:(rec .ready none).assign=assign:=by rw [hrec]
  have hbd:(rec .ready none).body=body:=by rw [hrec]
  have ht:(rec .ready none).params=#[p]:=by rw [hrec]
  have htm:(rec .ready none).tmps=a.tmps:=by rw [hrec]
  rw [ha,hbd,ht,htm]
  have hfrR:Fr (Imm P0' B' (ZAt (w.heap.size+1) (.loop (rec .ready none))::ZAt w.heap.size (.deferred (some []))::hs++hpX)) W { tmps:=a.tmps.setIfInBounds p u,defers:=[] } (F0.set p (D x)) :=
   Fr.put (x:=some p) (hF.fr hf) hu
  refine wpIn_mono (Q:=ZCE (fun e f q'=>e = .normal/\q'=ZAt (w.heap.size+1) (.loop (rec .ready none))::ZAt w.heap.size (.deferred (some []))::hs++hpX/\f=F1 x) P0' B' w0') ?_ ?_
  ·exact (hassign (w.heap.size+1) x _).out P0' B' w0' W _ hhW (by simpa using hfrR)
  rintro e a1 w1 ⟨f1,q1,⟨rfl,rfl,rfl⟩,hh1,hf1⟩
  have hl1:w1.heap[w.heap.size+1]?=some (.loop (rec .ready none)):=hh1.ok (ZAt (w.heap.size+1) (.loop (rec .ready none))) (by simp)
  refine ⟨_,run_beginRound hl1 (by rw [hrec]),?_⟩
  have hbz:({ rec .ready none with state:=.busy }:Loop)=rec .busy none:=by rw [hrec]
  rw [hbz]
  have hh2:Hp P0' B' w0' (ZAt (w.heap.size+1) (.loop (rec .busy none))::(ZAt w.heap.size (.deferred (some []))::(hs++hpX))) (w1.putObj (w.heap.size+1) (.loop (rec .busy none))):=Hp.putObj (o:=.loop (rec .ready none)) hh1
  have hf2:Fr (Imm P0' B' (ZAt (w.heap.size+1) (.loop (rec .busy none))::(ZAt w.heap.size (.deferred (some []))::(hs++hpX)))) (w1.putObj (w.heap.size+1) (.loop (rec .busy none))) a1 (F1 x):=hf1.mono fun d v hd=>ZAg (o:=.loop (rec .ready none)) hd
  obtain ⟨hh3,hI3⟩:=hh2.perm ZCd
  refine wpIn_mono ((hbody (w.heap.size+1) pre x hs _ hlt hH).out P0' B' w0' _ _ hh3 (hf2.mono fun d v hd=>d.weak hd fun k hk=>(hI3 k).1 hk)) ?_
  rintro e a3 w3 ⟨f3,q3,⟨rfl,hs',hH',rfl⟩,hh4,hf4⟩
  obtain ⟨hh5,_⟩:=hh4.perm ZCd.symm
  have hl3:w3.heap[w.heap.size+1]?=some (.loop (rec .busy none)):=hh5.ok (ZAt (w.heap.size+1) (.loop (rec .busy none))) (by simp)
  have hrz:({ rec .busy none with state:=if (none:Option Code).isNone then .ready else .done,pending:=none }:Loop)=rec .ready none:=by rw [hrec];rfl
  have hend:=run_endRound (P:=P) none hl3
  rw [hrz] at hend
  refine ⟨_,_,hend,rfl,_,⟨hs',hH',rfl⟩,?_⟩
  exact Hp.putObj (o:=.loop (rec .busy none)) hh5⟩
 have hC:=(hS.out (w.heap.size+1) _ hY _ hJ0).out P0 B w0 (hFr a fr::hp) (.func (.yield (w.heap.size+1)) #[] #[]::lb) W1 (by simpa using hB) (by simp) (fun i d hd=>by
  cases i with
  | zero=>simp at hd;subst hd;rfl
  | succ i =>
   simp only [List.getElem?_cons_succ,List.getElem?_map] at hd
   cases hq:lb[i]? with
   | none=>rw [hq] at hd;cases hd
   | some u=>rw [hq] at hd;cases hd;simp [List.getD,hq];rfl)
 refine ⟨w.heap.size+1,[{ target:=.collected w.heap.size,args:=#[] }],W1,{ target:=.fn (.func gf) lb.toArray,args:=#[.func (.yield (w.heap.size+1)) #[] #[]] },W1,gf,
  (.func (.yield (w.heap.size+1)) #[] #[]::lb).toArray,W1,?_,?_,fun _ _=>trivial,?_,fun h=>by simp [Fence.wide] at h,?_⟩
 ·rw [<- hW1,hrec];exact run_enterLoop_outer _ _ _ _ _
 ·have hev:a.eval g = .func (.func gf) #[] lb.toArray:=hg.ev hf
  simp only [resolve,hev]
  simp [go_sem]
 ·have:=he (.func (.yield (w.heap.size+1)) #[] #[]::lb).toArray W1
  simp [invoke,go_sem,this]
 ·refine callsIn_wide.2 (hC.mono ?_)
  rintro e w2 ⟨v,d,hp2,rfl,⟨js',⟨hs,hH,rfl⟩,rfl⟩,hh2,_⟩
  have hl2:w2.heap[w.heap.size+1]?=some (.loop (rec .ready none)):=hh2.ok (ZAt (w.heap.size+1) (.loop (rec .ready none))) (by simp)
  have hend:=run_endLoop (P:=P) hl2 (by rw [hrec];simp)
  have hpn:(rec .ready none).pending=none:=by rw [hrec]
  obtain ⟨rx,hrx⟩:∃ rx:Loop,rx={ rec .ready none with state:=.exhausted }:=⟨_,rfl⟩
  rw [<- hrx,hpn] at hend
  refine ⟨none,_,hend,?_⟩
  have hh3:Hp P0 B w0 (ZAt (w.heap.size+1) (.loop rx)::(ZAt w.heap.size (.deferred (some []))::(hs++(hk++(hFr a fr::hp))))) (w2.putObj (w.heap.size+1) (.loop rx)) :=
   Hp.putObj (o:=.loop (rec .ready none)) (by simpa using hh2)
  have hh4:=hh3.drop
  have hh5:Hp P0 B w0 ((ZAt w.heap.size (.deferred (some []))::(hs++hk))++hFr a fr::hp) (w2.putObj (w.heap.size+1) (.loop rx)):=by simpa using hh4
  obtain ⟨hh6,hok⟩:=hh5.unghost hgb
  have e1:(ZAt w.heap.size (.deferred (some []))::(hs++hk))++hp=ZAt w.heap.size (.deferred (some []))::(hs++(hk++hp)):=by simp
  rw [e1] at hh6 hok
  have:=hpost w.heap.size hs _ hH hh6 hok
  simpa using this
end
section
open Go.RowKit
section
variable {P:Program} {ops:Array Oper} {hp:List HObj} {fr:List Dat} {d:Dat} {Q:ZAW} {rest:List Oper}
variable {dst:Option Tmp} {ty:TypeId} {ps:String} {af:Array Edge} {g:Option (Nat × Bool)} {b cap N bytes:Nat} {e t T T2:TypeId} {xs:List Vx} {z:Value} {ag:Bool}
theorem ZIv {x:Operand} {ad:Addr} {m c:Nat} (hx:OpD fr x (dX (.slice (some ad) m c))) (hq:∀ (x y:Operand) ad m c w,(do eqGuard .eql T x y (.slice ad m c) (.slice none 0 0);Go.binOp .eql T (.slice ad m c) (.slice none 0 0)).run P w = .ok (.bool ad.isNone) w) :
  SY P ops hp ⟨dst,.binOp .eql T x (.const (.slice none 0 0)) T2,ty,ps,af,g⟩ fr (dB false):=SY.val fun {I w a} ho=>by
 have hv:a.eval x = .slice (some ad) m c:=hx.get (by simp [Op.operands]) ho
 refine ⟨.bool false,?_,rfl⟩
 have:=hq x (.const (.slice none 0 0)) (some ad) m c w
 unfold execOp
 have hc:a.eval (.const (.slice none 0 0)) = .slice none 0 0:=rfl
 simp only [hv,hc]
 rw [Sem.run_bind,this]
 simp
theorem ZJx {I:Nat->Prop} {w:World} {v:Value} (h:w.ownsRow 0 e 2 v xs.length (Zs xs)):OwnK 0 e 2 RV I w v xs:=by
 refine ⟨xs.map ZCU,by simp,fun u hu=>?_,by decide,h,fun k h h'=>?_⟩
 ·obtain ⟨y,_,rfl⟩:=List.mem_map.1 hu
  exact ⟨rfl,by simp [ZCU,Value.oneCell']⟩
 ·show Value.agg _=_
  rw [List.getElem_map]
  rfl
theorem ZPI {I:Nat->Prop} {w:World} {v:Value} (h:OwnK 0 e 2 RV I w v xs):w.ownsRow 0 e 2 v xs.length (Zs xs):=by
 obtain ⟨us,h1,h2,h0,h3,h4⟩:=h
 have hus:=ZK5 h1 h4
 subst hus
 exact h3
theorem ZQT {s y:Operand} {dst2:Option Tmp} {ty2:TypeId} {ps2:String} {af2:Array Edge} {v:Value} {ys:List Vx} (E:ElT P t e 2 z bytes ag) (hs:OpD fr s (dX v)) (hy:OpD fr y (dX (.slice (some ⟨b,0,none⟩) N cap))) (hby:0<bytes)
  (hlen:(xs.length+ys.length)*bytes≤140737488355328) (h:∀ v',WL P ops Q rest (ZA fr dst2 (dX v')) (Zp v' e 2 RV (xs++ys)::hV b N cap e ys::hp)) :
  WL P ops Q (⟨dst2,.call { callee:=.builtin .append,args:=#[s,y],argTypes:=#[t,t] },ty2,ps2,af2,none⟩::rest) fr (Zp v e 2 RV xs::hV b N cap e ys::hp):=by
 refine WL.of fun P0 B w0 w a hh hf=>?_
 have hm:xs.length+ys.length≤maxLen:=by
  have:(xs.length+ys.length)*1≤(xs.length+ys.length)*bytes:=Nat.mul_le_mul_left _ hby
  simp only [maxLen];omega
 obtain ⟨hN,hrow⟩:=ZDr.1 (hh.ok (hV b N cap e ys) (by simp))
 subst hN
 obtain ⟨v',w',hr,r1,r2,r3⟩:=ZEN (ty:=ty2) E hh (ad:=⟨b,0,none⟩) (c:=cap) (ys:=ys) (news:=ys.map ZCU) (by simp) (fun j u hu=>by
   have hlt:=(List.getElem?_eq_some_iff.1 hu).1
   have h2:(ys.map ZCU).flatten.length=ys.length*2:=Zy ys
   rw [h2] at hlt
   rw [Addr.add_lit,Nat.zero_add,(ZIZ hrow j hlt).1]
   exact hu)
  (fun u hu=>by
   obtain ⟨x,_,rfl⟩:=List.mem_map.1 hu
   exact ⟨rfl,by simp [ZCU,Value.oneCell']⟩) (fun k h1 h2=>by
   show Value.agg _=_
   rw [List.getElem_map]
   rfl) hlen hm
 refine ZA6 (v:=v) (yv:=_) (hs.ev hf) (hy.ev hf) hr ?_
 exact (h v').on r1 (Fr.put (x:=dst2) (hf.mono fun d _ hd=>ZY (o:=Zp v e 2 RV xs) (o':=Zp v' e 2 RV (xs++ys)) r2 r3 hd) (d:=dX v') rfl)
end
namespace I
section
variable {P:Program} {ops:Array Oper} {hp:List HObj} {fr:List Dat} {d:Dat} {Q:ZAW} {rest:List Oper}
variable {dst:Option Tmp} {ty:TypeId} {ps:String} {af:Array Edge} {g:Option (Nat × Bool)} {b cap N bytes:Nat} {e t T T2:TypeId} {xs:List Vx} {z:Value} {ag:Bool}
theorem ZKT {k:Nat} (hk:k≤xs.length) (h:WL P ops Q rest fr (hV b k cap e (xs.take k)::hp)):WL P ops Q rest fr (hV b N cap e xs::hp):=WL.of fun P0 B w0 w a hh hf=>by
 obtain ⟨hN,tl,hg,hc1,hc2,hc3⟩:=ZDr.1 (hh.ok (hV b N cap e xs) (by simp))
 have hgr:w.grownBy w (hV b N cap e xs).blk:=⟨rfl,rfl,rfl,Nat.le_refl _,fun _ _ _=>rfl⟩
 have e1:Zs xs++tl=Zs (xs.take k)++(Zs (xs.drop k)++tl):=by rw [<- List.append_assoc,<- ZBV,List.take_append_drop]
 have hok:(hV b k cap e (xs.take k)).ok (fun j=>Imm P0 B (hV b N cap e xs::hp) j/\j<w.heap.size) w :=
  ZDr.2 ⟨by simp;omega,Zs (xs.drop k)++tl,by rw [<- e1];exact hg,by simp;omega,hc2,by rw [<- e1];exact hc3⟩
 exact h.on (hh.write hgr (.inl rfl) hok) (hf.mono fun _ _ hd=>ZY (o':=hV b k cap e (xs.take k)) hgr (.inl rfl) hd)
end
end I
end
end Go.Proofs.YtekiljakcngcoaaGreatDoor
