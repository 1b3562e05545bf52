/- Part 8: walks by contracts, and plain laws. -/
import Derived.RangeFuncSeq
import Derived.Test.YtokmalofdapffaaGreatV7
set_option linter.unusedVariables false
set_option linter.unusedSimpArgs false
set_option linter.unusedSectionVars false
set_option maxRecDepth 100000
set_option maxHeartbeats 4000000
namespace Go.Proofs.YtokmalofdapffaaGreat
section
open Go.RowKit
def Z2 (b:Nat) (o:Obj):HObj where
 blk:=some b
 ok:=fun _ w=>w.heap[b]?=some o
 weak:=fun h _=>h
 bound:=fun h=>h
 move:=fun {P w w' row} h hg _ hne=>by
  have hlt:b<w.heap.size:=(Array.getElem?_eq_some_iff.1 h).1
  refine (hg.block b hlt ?_).trans h
  rcases hne with h|h
  ·cases h
  ·exact h
def ZAW (v:Value) (d:Dat):HObj where
 blk:=none
 ok:=fun I w=>d.rd I w v
 weak:=fun h q=>d.weak h q
 bound:=fun h=>d.bound h
 move:=fun h hg hP _=>d.grown h hg hP
structure YStep (P:Program) (l:Nat) {α:Type} (D:α->Dat) (J:List α->List HObj->Prop) (N:Nat):Prop where
 out:∀ (P0:Nat->Prop) (B:Nat) (w0:World) (hp:List HObj) (pre:List α) (js:List HObj) (x:α) (u:Value) (W:World),pre.length<N->J pre js->Hp P0 B w0 (js++hp) W->(D x).rd (Imm P0 B (js++hp)) W u ->
  YieldAt Fence.wide 0 P l #[u] W fun e W'=>e = .returned (.bool true)/\∃ js',J (pre++[x]) js'/\Hp P0 B w0 (js'++hp) W'
structure CallC (P:Program) (f:FuncId) (ds:List Dat) (hp1:List HObj) (K:Dat->List HObj->Prop):Prop where
 out:∀ (P0:Nat->Prop) (B:Nat) (w0:World) (hp:List HObj) (vs:List Value) (W:World),Hp P0 B w0 (hp1++hp) W->vs.length=ds.length ->
  (∀ (i:Nat) (d:Dat),ds[i]?=some d->d.rd (Imm P0 B (hp1++hp)) W (vs.getD i undef)) ->
  Calls P f vs.toArray W fun e W'=>∃ v d hp2,e = .returned v/\K d hp2/\Hp P0 B w0 (hp2++hp) W'/\d.rd (Imm P0 B (hp2++hp)) W' v
structure SeqC (P:Program) (gf:FuncId) (lb:List Value) (hk:List HObj) {α:Type} (D:α->Dat) (xs:List α):Prop where
 out:∀ (l:Nat) (J:List α->List HObj->Prop),YStep P l D J xs.length->∀ js,J [] js->CallC P gf (dX (.func (.yield l) #[] #[])::lb.map dX) (js++hk) (fun _ hp2=>∃ js',J xs js'/\hp2=js'++hk)

section
variable {P:Program} {f:FuncId} {fn:Func} {c:Code} {t:Tmp} {ds:List Dat} {hp1:List HObj} {K:Dat->List HObj->Prop}
def finC (t:Nat) (K:Dat->List HObj->Prop) (hp:List HObj):ZAE:=fun e f q=>(match e with|.normal|.ret=>True|_=>False)/\∃ d hp2,f[t]?=some d/\q=hp2++hp/\K d hp2
def finC0 (K:Dat->List HObj->Prop) (hp:List HObj):ZAE:=fun e _ q=>(match e with|.normal|.ret=>True|_=>False)/\∃ hp2,q=hp2++hp/\K dA hp2
theorem ZAb (hf:P.funcs[f]?=some fn) (hb:fn.body=some c) (hr:fn.results=#[.tmp t])
  (h:∀ hp,WC P (finC t K hp) c (ds++List.replicate (fn.ntmps-ds.length) (dX undef)) (hp1++hp)):CallC P f ds hp1 K:=⟨fun P0 B w0 hp vs W hh hl hv=>by
 refine calls_of_wp hf hb ?_
 have hf0:=ZBF (m:=fn.ntmps-ds.length) hl hv
 have hsz:vs.toArray.size=ds.length:=by simp [hl]
 rw [hsz]
 refine Code.wp_mono (fun e a' w' ⟨f',p',q,hh',hf'⟩=>?_) ((h hp).on hh hf0)
 obtain ⟨hx,d',hp2,hd',rfl,hk'⟩:=q
 have hv:=hf'.rd t d' hd'
 cases e with
 | normal=>exact ⟨hf'.defers,_,results_tmp hr _ _ _,_,d',hp2,rfl,hk',hh',hv⟩
 | ret=>exact ⟨hf'.defers,_,results_tmp hr _ _ _,_,d',hp2,rfl,hk',hh',hv⟩
 | _=>exact hx.elim⟩
theorem ZCy (hf:P.funcs[f]?=some fn) (hb:fn.body=some c) (hr:fn.results=#[])
  (h:∀ hp,WC P (finC0 K hp) c (ds++List.replicate (fn.ntmps-ds.length) (dX undef)) (hp1++hp)):CallC P f ds hp1 K:=⟨fun P0 B w0 hp vs W hh hl hv=>by
 refine calls_of_wp hf hb ?_
 have hf0:=ZBF (m:=fn.ntmps-ds.length) hl hv
 have hsz:vs.toArray.size=ds.length:=by simp [hl]
 rw [hsz]
 refine Code.wp_mono (fun e a' w' ⟨f',p',q,hh',hf'⟩=>?_) ((h hp).on hh hf0)
 obtain ⟨hx,hp2,rfl,hk'⟩:=q
 cases e with
 | normal=>exact ⟨hf'.defers,_,results_none hr _ _ _,_,dA,hp2,rfl,hk',hh',trivial⟩
 | ret=>exact ⟨hf'.defers,_,results_none hr _ _ _,_,dA,hp2,rfl,hk',hh',trivial⟩
 | _=>exact hx.elim⟩
end
section
variable {P:Program} {ops:Array Oper} {hp:List HObj} {fr:List Dat} {Q:ZAE} {rest:List Oper} {dst:Option Tmp} {ty:TypeId} {ps:String} {af:Array Edge} {d:Dat} {c:Code}
theorem ZFS (t:Nat) (ht:fr[t]?=some d) (h:∀ v,WC P Q c (fr.set t (dX v)) (ZAW v d::hp)):WC P Q c fr hp:=WC.of fun P0 B w0 w a hh hf=>by
 have hg:(ZAW (a.tmps.getD t undef) d).blk=none:=rfl
 have hd:=hf.rd t d ht
 refine (h (a.tmps.getD t undef)).on (ZAz (l:=[]) hg hh hd) ⟨hf.defers,by rw [hf.size,List.length_set],fun t' d' hd'=>?_⟩
 by_cases htt:t=t'
 ·subst htt
  rw [List.getElem?_set] at hd'
  simp only [if_true] at hd'
  split at hd'
  ·cases hd';rfl
  ·cases hd'
 ·rw [List.getElem?_set_ne htt] at hd'
  exact d'.weak (hf.rd t' d' hd') fun k=>(ZAI hg [] k).2
theorem ZFT {v:Value} (t:Nat) (ht:fr[t]?=some (dX v)) (hm:ZAW v d∈hp) (h:WC P Q c (fr.set t d) hp):WC P Q c fr hp:=WC.of fun P0 B w0 w a hh hf=>by
 refine h.on hh ⟨hf.defers,by rw [hf.size,List.length_set],fun t' d' hd'=>?_⟩
 by_cases htt:t=t'
 ·subst htt
  rw [List.getElem?_set] at hd'
  simp only [if_true] at hd'
  split at hd'
  ·cases hd'
   have h1:a.tmps.getD t undef=v:=hf.rd t _ ht
   rw [h1]
   exact hh.ok _ hm
  ·cases hd'
 ·rw [List.getElem?_set_ne htt] at hd'
  exact hf.rd t' d' hd'
theorem ZO7 {hp':List HObj} (hp1:hp.Perm hp') (h:WC P Q c fr hp'):WC P Q c fr hp:=WC.of fun _ _ _ _ _ hh hf =>
 let ⟨h1,h2⟩:=hh.perm hp1
 h.on h1 (hf.mono fun d _ hd=>d.weak hd fun k hk=>(h2 k).1 hk)
def ArgsX (fr:List Dat) (xs:List Operand) (vs:List Value):Prop:=xs.length=vs.length/\∀ (i:Nat) (x:Operand) (v:Value),xs[i]?=some x->vs[i]?=some v->OpD fr x (dX v)
theorem ArgsX.nil:ArgsX fr [] []:=⟨rfl,fun i x v h=>by simp at h⟩
theorem ArgsX.cons {x:Operand} {xs:List Operand} {v:Value} {vs:List Value} (h:OpD fr x (dX v)) (k:ArgsX fr xs vs):ArgsX fr (x::xs) (v::vs) :=
 ⟨by simp [k.1],fun i y u hy hu=>by
  cases i with
  | zero=>simp at hy hu;subst hy;subst hu;exact h
  | succ i=>exact k.2 i y u (by simpa using hy) (by simpa using hu)⟩
theorem ZDx {f:FuncId} {caps:Array Operand} {vs:List Value} {g:Option (Nat × Bool)} (ha:ArgsX fr caps.toList vs) :
  SY P ops hp ⟨dst,.makeFunc (.func f) #[] caps,ty,ps,af,g⟩ fr (dX (.func (.func f) #[] vs.toArray)):=SY.val fun {I w a} ho=>by
 refine ⟨.func (.func f) #[] (caps.map a.eval),by unfold execOp;simp [Instr.makeFunc],?_⟩
 show Value.func _ _ _=Value.func _ _ _
 congr 1
 apply Array.ext'
 rw [Array.toList_map]
 show caps.toList.map a.eval=vs
 apply List.ext_getElem (by simpa using ha.1)
 intro i h1 h2
 have hi:i<caps.toList.length:=by simpa using h1
 have h3:a.eval caps.toList[i]=vs[i]:=(ha.2 i _ _ (List.getElem?_eq_getElem hi) (List.getElem?_eq_getElem h2)).get (by simp only [Op.operands];simp) ho
 simpa using h3
theorem ZQX {x:Operand} {T:TypeId} {w:World} {a:Act} {g:Option (Nat × Bool)} {cs:List Value} (h:(a.eval x).cells=cs.toArray) :
  (execOp a.eval ⟨dst,.box T x,ty,ps,af,g⟩).run P w = .ok (.value (.pointer (some ⟨w.heap.size,0,none⟩))) (w.alloc (.cells cs.toArray T)):=by
 unfold execOp
 simp [Instr.box,newVar,newRow,h]
theorem ZGy {x:Operand} {T:TypeId} {n:Nat} {agg:Bool} (hx:OpD fr x d) (hs:d.Shape n agg) (h:∀ b,WL P ops Q rest (ZB fr dst (dX (.pointer (some ⟨b,0,none⟩)))) (ZO b T n agg d::hp)) :
  WL P ops Q (⟨dst,.box T x,ty,ps,af,none⟩::rest) fr hp:=by
 refine WL.of fun P0 B w0 w a hh hf=>?_
 have h1:=hx.ev hf
 obtain ⟨cs,k1,k0,k2,k3,k4⟩:=hs _ _ _ h1
 refine Zi rfl (ZQX k3) ?_
 have hx:=Ext.of_alloc w (.cells cs.toArray T)
 have hb:∀ k,(ZO w.heap.size T n agg d).blk=some k->w.heap.size≤k/\k<(w.alloc (.cells cs.toArray T)).heap.size:=fun k hk=>by
  cases hk
  exact ⟨Nat.le_refl _,by simp⟩
 refine (h w.heap.size).on (hh.push hx hb ⟨cs,a.eval x,Zx w _,k1,k0,k2,k4,?_⟩) ?_
 ·exact Dat.ext (d.bound h1) hx
 exact Fr.put (hf.mono fun d _ hd=>Z8 hx (fun k hk=>(hb k hk).1) hd) rfl
theorem ZIW {f:FuncId} {caps:List Value} {cl:Operand} {args:Array Operand} {ats:Array TypeId} {ds1:List Dat} {hp1:List HObj} {K:Dat->List HObj->Prop} {P0:Nat->Prop} {B:Nat} {w0 w:World} {a:Act} (hF:CallC P f (ds1++caps.map dX) hp1 K) (he:ZAw P f) (hc:OpD fr cl (dX (.func (.func f) #[] caps.toArray))) (ha:ArgsD fr args.toList ds1)
  (hh:Hp P0 B w0 (hp1++hp) w) (hfr:Fr (Imm P0 B (hp1++hp)) w a fr) {KK:Act->World->Prop} {QQ:Exit->Act->World->Prop}
  (hKK:∀ d' hp2 a' w',K d' hp2->Hp P0 B w0 (hp2++hp) w'->Fr (Imm P0 B (hp2++hp)) w' a' (ZB fr dst d')->KK a' w') :
  Oper.wp P ⟨dst,.call { callee:=.value cl,args:=args,argTypes:=ats },ty,ps,af,none⟩ a w KK QQ:=by
 have hev:a.eval cl = .func (.func f) #[] caps.toArray:=hc.ev hfr
 have h4:=he (args.map a.eval++caps.toArray) w
 have hrun:(execOp a.eval ⟨dst,.call { callee:=.value cl,args:=args,argTypes:=ats },ty,ps,af,none⟩).run P w = .ok (.enter f (args.map a.eval++caps.toArray)) w:=by
  unfold execOp
  simp only [resolve]
  simp [hev,Deferred.ofValue,invoke,h4]
 unfold Oper.wp
 rw [hrun]
 have hgb:(hFr a fr).blk=none:=rfl
 have hG:Hp P0 B w0 (hp1++hFr a fr::hp) w:=ZAz hgb hh hfr.rd
 have hvs:args.map a.eval++caps.toArray=(args.toList.map a.eval++caps).toArray:=by apply Array.ext';simp
 have hal:args.size=ds1.length:=by simpa using ha.1
 have hl:(args.toList.map a.eval++caps).length=(ds1++caps.map dX).length:=by simp [hal]
 have hcalls:=hF.out P0 B w0 (hFr a fr::hp) (args.toList.map a.eval++caps) w hG hl fun i d hd=>by
  by_cases hi:i<ds1.length
  ·rw [List.getElem?_append_left hi] at hd
   have hi':i<args.toList.length:=by simpa [hal] using hi
   have h2:=(ha.2 i _ d (List.getElem?_eq_getElem hi') hd).ev hfr
   have hi2:i<args.size:=by simpa using hi'
   have:(args.toList.map a.eval++caps).getD i undef=a.eval args.toList[i]:=by
    rw [List.getD_eq_getElem?_getD,List.getElem?_append_left (by simpa using hi2)]
    simp [hi2]
   rw [this]
   exact d.weak h2 fun k=>(ZAI hgb hp1 k).2
  ·rw [List.getElem?_append_right (by omega)] at hd
   rw [List.getD_eq_getElem?_getD,List.getElem?_append_right (by simp;omega)]
   have hlen:(args.toList.map a.eval).length=ds1.length:=by simp [hal]
   rw [hlen]
   rw [List.getElem?_map] at hd
   cases hq:caps[i-ds1.length]? with
   | none=>rw [hq] at hd;cases hd
   | some u=>rw [hq] at hd;cases hd;rfl
 rw [hvs]
 exact hcalls.mono fun e w' ⟨v,d',hp2,hv,hk,hh',hd'⟩=>by
  subst hv
  obtain ⟨hh2,hok2⟩:=hh'.unghost hgb
  have hfr2:Fr (Imm P0 B (hp2++hp)) w' a fr:=⟨hfr.defers,hfr.size,hok2⟩
  exact hKK _ _ _ _ hk hh2 (Fr.put (x:=dst) hfr2 (d'.weak hd' fun k=>(ZAI hgb hp2 k).1))
theorem WL.callC {f:FuncId} {caps:List Value} {cl:Operand} {args:Array Operand} {ats:Array TypeId} {ds1:List Dat} {hp1:List HObj} {K:Dat->List HObj->Prop} (hF:CallC P f (ds1++caps.map dX) hp1 K) (he:ZAw P f) (hc:OpD fr cl (dX (.func (.func f) #[] caps.toArray))) (ha:ArgsD fr args.toList ds1)
  (hK:∀ d' hp2,K d' hp2->WL P ops Q rest (ZB fr dst d') (hp2++hp)) :
  WL P ops Q (⟨dst,.call { callee:=.value cl,args:=args,argTypes:=ats },ty,ps,af,none⟩::rest) fr (hp1++hp) :=
 WL.of fun _ _ _ _ _ hh hfr=>wpList_plain rfl fun _ hKK=>ZIW hF he hc ha hh hfr fun d' hp2 _ _ hk hh2 hf2=>hKK _ _ ((hK d' hp2 hk).on hh2 hf2)
end
namespace I
section
variable {P:Program} {ops:Array Oper} {hp:List HObj} {fr:List Dat} {Q:ZAE} {rest:List Oper} {dst:Option Tmp} {ty:TypeId} {ps:String} {af:Array Edge} {d:Dat} {c:Code}
theorem WL.callC {f:FuncId} {caps:List Value} {cl:Operand} {args:Array Operand} {ats:Array TypeId} {ds1:List Dat} {hp1:List HObj} {K:Dat->List HObj->Prop} (hF:CallC P f (ds1++caps.map dX) hp1 K) (he:ZAw P f) (hc:OpD fr cl (dX (.func (.func f) #[] caps.toArray))) (ha:ArgsD fr args.toList ds1)
  (hK:∀ d' hp2,K d' hp2->WL P ops Q rest (ZB fr dst d') (hp2++hp)) :
  WL P ops Q (⟨dst,.call { callee:=.value cl,args:=args,argTypes:=ats },ty,ps,af,none⟩::rest) fr (hp1++hp) :=
 WL.of fun _ _ _ _ _ hh hfr=>ZCA rfl fun _ hKK=>ZIW hF he hc ha hh hfr fun d' hp2 _ _ hk hh2 hf2=>hKK _ _ ((hK d' hp2 hk).on hh2 hf2)
theorem WL.yield {l:Nat} {α:Type} {D:α->Dat} {J:List α->List HObj->Prop} {t:Tmp} {x:Operand} {ats:Array TypeId} {pre:List α} {js:List HObj} {y:α} {N:Nat} (hy:YStep P l D J N) (hn:pre.length<N) (hj:J pre js) (ht:OpD fr (.tmp t) (dX (.func (.yield l) #[] #[]))) (hx:OpD fr x (D y))
  (h:∀ js',J (pre++[y]) js'->WL P ops Q rest (ZB fr dst (dB true)) (js'++hp)) :
  WL P ops Q (⟨dst,.call { callee:=.value (.tmp t),args:=#[x],argTypes:=ats },ty,ps,af,none⟩::rest) fr (js++hp):=by
 refine WL.of fun P0 B w0 w a hh hf=>?_
 have hgb:(hFr a fr).blk=none:=rfl
 have hG:Hp P0 B w0 (js++hFr a fr::hp) w:=ZAz hgb hh hf.rd
 have hev:a.eval (.tmp t) = .func (.yield l) #[] #[]:=ht.ev hf
 have hyy:=hy.out P0 B w0 (hFr a fr::hp) pre js y (a.eval x) w hn hj hG ((D y).weak (hx.ev hf) fun k=>(ZAI hgb _ k).2)
 obtain ⟨fn,tmps,assign,body,hrun,hR⟩:=hyy
 refine wpListIn_plain rfl fun K hK=>?_
 refine ⟨fun _ _=>trivial,?_⟩
 have hr:(execOp a.eval ⟨dst,.call { callee:=.value (.tmp t),args:=#[x],argTypes:=ats },ty,ps,af,none⟩).run P w = .ok (.round l fn tmps assign body) w:=by
  unfold execOp
  simp only [resolve]
  simp [hev,Deferred.ofValue,invoke,hrun]
 rw [show Fence.wide.round=none from rfl,Oper.semAt_none,hr]
 refine ⟨fun h=>by simp [Fence.wide] at h,hR.mono fun e W' ⟨he,js',hj',hh'⟩=>?_⟩
 subst he
 obtain ⟨hh2,hok2⟩:=hh'.unghost hgb
 exact hK _ _ ((h js' hj').on hh2 (Fr.put (⟨hf.defers,hf.size,hok2⟩:Fr (Imm P0 B (js'++hp)) W' a fr) (d:=dB true) rfl))
end
end I
end
section
open Go.RowKit
theorem ZGY {P:Program} {o:Oper} {a:Act} {w:World} {K:Act->World->Prop} {Q:Exit->Act->World->Prop} {l:Nat} (hd:∀ c,o.op ≠ .defer c) (h:o.wpIn Fence.wide 0 P a w K Q):o.wpIn (Fence.wide.inRound l) 0 P a w K Q:=by
 refine ⟨fun _ _=>trivial,?_⟩
 have h2:=h.2
 rw [show Fence.wide.round=none from rfl,Oper.semAt_none] at h2
 rw [show (Fence.wide.inRound l).round=some l from rfl,Oper.semAt_some l _ _ hd]
 exact h2
theorem ZDj {P:Program} {ops:Array Oper} {Q:Exit->Act->World->Prop} {l:Nat}:∀ {rest:List Oper} {a:Act} {w:World},(∀ o∈rest,∀ c,o.op ≠ .defer c)->wpListIn Fence.wide 0 P ops Q rest a w->wpListIn (Fence.wide.inRound l) 0 P ops Q rest a w
 | [],_,_,_,h=>h
 | o::rest,a,w,hd,h=>by
  have hr:∀ a w,wpListIn Fence.wide 0 P ops Q rest a w->wpListIn (Fence.wide.inRound l) 0 P ops Q rest a w:=fun a w=>ZDj fun o ho=>hd o (List.mem_cons_of_mem _ ho)
  unfold wpListIn at h ⊢
  split at h
  ·rename_i hw
   rw [if_pos hw]
   exact ZGY (hd o (by simp)) (Oper.wpIn_mono hr h)
  ·rename_i hw
   rw [if_neg hw]
   exact ⟨fun _ _=>trivial,hr _ _ h.2⟩
structure WR (P:Program) (l:Nat) (Q:ZAE) (c:Code) (fr:List Dat) (hp:List HObj):Prop where
 of ::
 out:∀ (P0:Nat->Prop) (B:Nat) (w0 w:World) (a:Act),Hp P0 B w0 hp w->Fr (Imm P0 B hp) w a fr->c.wpIn (Fence.wide.inRound l) 0 P (ZCN Q P0 B w0) a w
section
variable {P:Program} {l:Nat} {Q:ZAE} {fr:List Dat} {hp:List HObj}
theorem WR.region {id:Nat} {ops:List Oper} (hd:(ops.all fun o=>match o.op with|.defer _=>false|_=>true)=true) (h:I.WL P ops.toArray Q ops fr hp):WR P l Q (.region id ops.toArray false) fr hp:=WR.of fun _ _ _ _ _ hh hf =>
 wpIn_region_lit (ZDj (fun o ho c hc=>by have:=List.all_eq_true.1 hd o ho;rw [hc] at this;cases this) (h.on hh hf))
theorem WR.seq {x y:Code} (h:WR P l (ThenD (WR P l Q y) Q) x fr hp):WR P l Q (.seq x y) fr hp:=WR.of fun P0 B w0 w a hh hf=>wpIn_seq (wpIn_mono (h.out _ _ _ _ _ hh hf) (fun e a' w' ⟨f,p,q,r,s⟩=>by
 cases e with
 | normal=>exact (q:WR P l Q y f p).out _ _ _ _ _ r s
 | _=>exact ⟨f,p,q,r,s⟩))
theorem WR.skip (h:Q .normal fr hp):WR P l Q .skip fr hp:=WR.of fun _ _ _ _ _ hh hf=>wpIn_skip ⟨fr,hp,h,hh,hf⟩
theorem WR.exit {id:Nat} (h:Q (.exit id) fr hp):WR P l Q (.exit id) fr hp:=WR.of fun _ _ _ _ _ hh hf=>wpIn_exit ⟨fr,hp,h,hh,hf⟩
theorem WR.block {id:Nat} {c:Code} (h:WR P l (InBlockD id Q) c fr hp):WR P l Q (.block id c) fr hp:=WR.of fun P0 B w0 w a hh hf=>wpIn_block (wpIn_mono (h.out _ _ _ _ _ hh hf) (fun e a' w' ⟨f,p,q,r,s⟩=>by
 cases e with
 | exit id' =>
  simp only [Exit.inBlock]
  simp only [InBlockD] at q
  split
  ·rename_i hi;rw [if_pos hi] at q;exact ⟨f,p,q,r,s⟩
  ·rename_i hi;rw [if_neg hi] at q;exact ⟨f,p,q,r,s⟩
 | _=>exact ⟨f,p,q,r,s⟩))
end
inductive FixF:List Dat->List Dat->Prop
 | nil:FixF [] []
 | x {v:Value} {f f':List Dat}:FixF f f'->FixF (dX v::f) (dX v::f')
 | a {d:Dat} {f f':List Dat}:FixF f f'->FixF (d::f) (dA::f')
theorem FixF.out {f f':List Dat} (h:FixF f f'):f.length=f'.length/\∀ (t:Nat) (d:Dat),f'[t]?=some d->(∃ v,f[t]?=some (dX v)/\d=dX v)\/d=dA:=by
 induction h with
 | nil=>exact ⟨rfl,fun t d h=>by simp at h⟩
 | x _ ih =>
  refine ⟨by simp [ih.1],fun t d h=>?_⟩
  cases t with
  | zero=>simp at h;subst h;exact .inl ⟨_,rfl,rfl⟩
  | succ t=>simpa using ih.2 t d (by simpa using h)
 | a _ ih =>
  refine ⟨by simp [ih.1],fun t d h=>?_⟩
  cases t with
  | zero=>simp at h;subst h;exact .inr rfl
  | succ t=>simpa using ih.2 t d (by simpa using h)
theorem FixF.fr {f f':List Dat} (h:FixF f f') {I I':Nat->Prop} {w w':World} {a:Act} (hf:Fr I w a f):Fr I' w' { tmps:=a.tmps,defers:=[] } f' :=
 ⟨rfl,by rw [<- h.out.1];exact hf.size,fun t d hd=>by
  rcases h.out.2 t d hd with ⟨v,h1,rfl⟩|rfl
  ·exact hf.rd t _ h1
  ·trivial⟩
theorem ZEt (w:World) (l:Nat) (o:Obj):w.grownBy (w.putObj l o) (some l):=⟨rfl,rfl,rfl,by simp,fun k _ hk=>World.putObj_heap_other (fun e=>hk (by rw [e]))⟩
theorem Hp.putObj {P0:Nat->Prop} {B:Nat} {w0 w:World} {l:Nat} {o o':Obj} {hp:List HObj} (h:Hp P0 B w0 (Z2 l o::hp) w):Hp P0 B w0 (Z2 l o'::hp) (w.putObj l o'):=by
 have hl:=h.ok (Z2 l o) (by simp)
 exact h.write (o':=Z2 l o') (ZEt w l o') (.inl rfl) (World.putObj_heap_same (Array.getElem?_eq_some_iff.1 hl).1)
theorem ZAO {P0:Nat->Prop} {B:Nat} {w:World} {l:Nat} {o o':Obj} {hp:List HObj} {d:Dat} {v:Value} (hd:d.rd (Imm P0 B (Z2 l o::hp)) w v):d.rd (Imm P0 B (Z2 l o'::hp)) (w.putObj l o') v :=
 ZN (o:=Z2 l o) (o':=Z2 l o') (ZEt w l o') (.inl rfl) hd
theorem ZBG {x y:HObj} {hs hp:List HObj}:(x::y::(hs++hp)).Perm (hs++x::y::hp) :=
 ((List.perm_middle (l₁:=hs) (l₂:=y::hp) (a:=x)).trans (List.Perm.cons x List.perm_middle)).symm
theorem ZJJ {P:Program} {g:Operand} {p:Tmp} {assign body:Code} {Q:Exit->Act->World->Prop} {P0:Nat->Prop} {B:Nat} {w0 w:World} {a:Act} {fr:List Dat} {gf:FuncId} {lb:List Value} {hk hp hs0:List HObj} {α:Type} {D:α->Dat} {xs:List α} (H:List α->List HObj->Prop) (F0:List Dat) (F1:α->List Dat)
  (hh:Hp P0 B w0 (hs0++(hk++hp)) w) (hf:Fr (Imm P0 B (hs0++(hk++hp))) w a fr) (hg:OpD fr g (dX (.func (.func gf) #[] lb.toArray))) (he:ZAw P gf) (hS:SeqC P gf lb hk D xs) (h0:H [] hs0) (hF:FixF fr F0)
  (hassign:∀ (l:Nat) (x:α) (q:List HObj),WR P l (fun e f q'=>e = .normal/\q'=q/\f=F1 x) assign (F0.set p (D x)) q)
  (hbody:∀ (l:Nat) (pre:List α) (x:α) (hs q:List HObj),pre.length<xs.length->H pre hs->WR P l (fun e _ q'=>e = .normal/\∃ hs',H (pre++[x]) hs'/\q'=hs'++q) body (F1 x) (hs++q))
  (hpost:∀ (k:Nat) (hs:List HObj) (w':World),H xs hs->Hp P0 B w0 (Z2 k (.deferred (some []))::(hs++(hk++hp))) w'->(∀ (t:Nat) (d:Dat),fr[t]?=some d->d.rd (Imm P0 B (Z2 k (.deferred (some []))::(hs++(hk++hp)))) w' (a.tmps.getD t undef)) ->
   Q .normal { a with defers:={ target:=.collected k,args:=#[] }::a.defers } w'):(Code.rangeFunc g #[p] assign body).wp P Q a w:=by
 refine (wpIn_wide (n:=0)).1 (wpIn_rangeFunc ?_)
 intro fn hfn
 rw [show Fence.wide.round=none from rfl]
 obtain ⟨rec,hrec⟩:∃ rec:LoopState->Option Code->Loop,rec=fun st pe=>{ state:=st,pending:=pe,fn,tmps:=a.tmps,params:=#[p],assign,body,defers:=w.heap.size }:=⟨_,rfl⟩
 obtain ⟨W1,hW1⟩:∃ W1,(w.alloc (.deferred (some []))).alloc (.loop (rec .ready none))=W1:=⟨_,rfl⟩
 have hgb:(hFr a fr).blk=none:=rfl
 have hG:Hp P0 B w0 (hs0++(hk++(hFr a fr::hp))) w:=by
  have:=ZAz (l:=hs0++hk) (hp:=hp) hgb (by rw [List.append_assoc];exact hh) (by rw [List.append_assoc];exact hf.rd)
  rw [List.append_assoc] at this
  exact this
 have hA:Hp P0 B w0 (Z2 w.heap.size (.deferred (some []))::(hs0++(hk++(hFr a fr::hp)))) (w.alloc (.deferred (some []))) :=
  hG.push (Ext.of_alloc _ _) (fun k hk=>by cases hk;simp) (World.alloc_heap_new w _)
 have hB:Hp P0 B w0 (Z2 (w.heap.size+1) (.loop (rec .ready none))::Z2 w.heap.size (.deferred (some []))::(hs0++(hk++(hFr a fr::hp)))) W1:=by
  rw [<- hW1]
  refine hA.push (Ext.of_alloc _ _) (fun k hk=>by cases hk;simp) ?_
  have:=World.alloc_heap_new (w.alloc (.deferred (some []))) (.loop (rec .ready none))
  rwa [World.size_alloc] at this
 have hJ0:(∃ hs,H [] hs/\(Z2 (w.heap.size+1) (.loop (rec .ready none))::Z2 w.heap.size (.deferred (some []))::hs0)=Z2 (w.heap.size+1) (.loop (rec .ready none))::Z2 w.heap.size (.deferred (some []))::hs):=⟨hs0,h0,rfl⟩
 have hY:YStep P (w.heap.size+1) D (fun pre js=>∃ hs,H pre hs/\js=Z2 (w.heap.size+1) (.loop (rec .ready none))::Z2 w.heap.size (.deferred (some []))::hs) xs.length:=⟨fun P0' B' w0' hpX pre js x u W hlt ⟨hs,hH,hjs⟩ hhW hu=>by
  subst hjs
  have hl:W.heap[w.heap.size+1]?=some (.loop (rec .ready none)):=hhW.ok (Z2 (w.heap.size+1) (.loop (rec .ready none))) (by simp)
  have hy:=run_yield (P:=P) (args:=#[u]) hl (by rw [hrec];simp)
  refine ⟨_,_,_,_,hy,roundIn_of_wpIn trivial ?_⟩
  have ha:(rec .ready none).assign=assign:=by rw [hrec]
  have hbd:(rec .ready none).body=body:=by rw [hrec]
  have ht:(rec .ready none).params=#[p]:=by rw [hrec]
  have htm:(rec .ready none).tmps=a.tmps:=by rw [hrec]
  rw [ha,hbd,ht,htm]
  have hfrR:Fr (Imm P0' B' (Z2 (w.heap.size+1) (.loop (rec .ready none))::Z2 w.heap.size (.deferred (some []))::hs++hpX)) W { tmps:=a.tmps.setIfInBounds p u,defers:=[] } (F0.set p (D x)) :=
   Fr.put (x:=some p) (hF.fr hf) hu
  refine wpIn_mono (Q:=ZCN (fun e f q'=>e = .normal/\q'=Z2 (w.heap.size+1) (.loop (rec .ready none))::Z2 w.heap.size (.deferred (some []))::hs++hpX/\f=F1 x) P0' B' w0') ?_ ?_
  ·exact (hassign (w.heap.size+1) x _).out P0' B' w0' W _ hhW (by simpa using hfrR)
  rintro e a1 w1 ⟨f1,q1,⟨rfl,rfl,rfl⟩,hh1,hf1⟩
  have hl1:w1.heap[w.heap.size+1]?=some (.loop (rec .ready none)):=hh1.ok (Z2 (w.heap.size+1) (.loop (rec .ready none))) (by simp)
  refine ⟨_,run_beginRound hl1 (by rw [hrec]),?_⟩
  have hbz:({ rec .ready none with state:=.busy }:Loop)=rec .busy none:=by rw [hrec]
  rw [hbz]
  have hh2:Hp P0' B' w0' (Z2 (w.heap.size+1) (.loop (rec .busy none))::(Z2 w.heap.size (.deferred (some []))::(hs++hpX))) (w1.putObj (w.heap.size+1) (.loop (rec .busy none))):=Hp.putObj (o:=.loop (rec .ready none)) hh1
  have hf2:Fr (Imm P0' B' (Z2 (w.heap.size+1) (.loop (rec .busy none))::(Z2 w.heap.size (.deferred (some []))::(hs++hpX)))) (w1.putObj (w.heap.size+1) (.loop (rec .busy none))) a1 (F1 x):=hf1.mono fun d v hd=>ZAO (o:=.loop (rec .ready none)) hd
  obtain ⟨hh3,hI3⟩:=hh2.perm ZBG
  refine wpIn_mono ((hbody (w.heap.size+1) pre x hs _ hlt hH).out P0' B' w0' _ _ hh3 (hf2.mono fun d v hd=>d.weak hd fun k hk=>(hI3 k).1 hk)) ?_
  rintro e a3 w3 ⟨f3,q3,⟨rfl,hs',hH',rfl⟩,hh4,hf4⟩
  obtain ⟨hh5,_⟩:=hh4.perm ZBG.symm
  have hl3:w3.heap[w.heap.size+1]?=some (.loop (rec .busy none)):=hh5.ok (Z2 (w.heap.size+1) (.loop (rec .busy none))) (by simp)
  have hrz:({ rec .busy none with state:=if (none:Option Code).isNone then .ready else .done,pending:=none }:Loop)=rec .ready none:=by rw [hrec];rfl
  have hend:=run_endRound (P:=P) none hl3
  rw [hrz] at hend
  refine ⟨_,_,hend,rfl,_,⟨hs',hH',rfl⟩,?_⟩
  exact Hp.putObj (o:=.loop (rec .busy none)) hh5⟩
 have hC:=(hS.out (w.heap.size+1) _ hY _ hJ0).out P0 B w0 (hFr a fr::hp) (.func (.yield (w.heap.size+1)) #[] #[]::lb) W1 (by simpa using hB) (by simp) (fun i d hd=>by
  cases i with
  | zero=>simp at hd;subst hd;rfl
  | succ i =>
   simp only [List.getElem?_cons_succ,List.getElem?_map] at hd
   cases hq:lb[i]? with
   | none=>rw [hq] at hd;cases hd
   | some u=>rw [hq] at hd;cases hd;simp [List.getD,hq];rfl)
 refine ⟨w.heap.size+1,[{ target:=.collected w.heap.size,args:=#[] }],W1,{ target:=.fn (.func gf) lb.toArray,args:=#[.func (.yield (w.heap.size+1)) #[] #[]] },W1,gf,
  (.func (.yield (w.heap.size+1)) #[] #[]::lb).toArray,W1,?_,?_,fun _ _=>trivial,?_,fun h=>by simp [Fence.wide] at h,?_⟩
 ·rw [<- hW1,hrec];exact run_enterLoop_outer _ _ _ _ _
 ·have hev:a.eval g = .func (.func gf) #[] lb.toArray:=hg.ev hf
  simp only [resolve,hev]
  simp [go_sem]
 ·have:=he (.func (.yield (w.heap.size+1)) #[] #[]::lb).toArray W1
  simp [invoke,go_sem,this]
 ·refine callsIn_wide.2 (hC.mono ?_)
  rintro e w2 ⟨v,d,hp2,rfl,⟨js',⟨hs,hH,rfl⟩,rfl⟩,hh2,_⟩
  have hl2:w2.heap[w.heap.size+1]?=some (.loop (rec .ready none)):=hh2.ok (Z2 (w.heap.size+1) (.loop (rec .ready none))) (by simp)
  have hend:=run_endLoop (P:=P) hl2 (by rw [hrec];simp)
  have hpn:(rec .ready none).pending=none:=by rw [hrec]
  obtain ⟨rx,hrx⟩:∃ rx:Loop,rx={ rec .ready none with state:=.exhausted }:=⟨_,rfl⟩
  rw [<- hrx,hpn] at hend
  refine ⟨none,_,hend,?_⟩
  have hh3:Hp P0 B w0 (Z2 (w.heap.size+1) (.loop rx)::(Z2 w.heap.size (.deferred (some []))::(hs++(hk++(hFr a fr::hp))))) (w2.putObj (w.heap.size+1) (.loop rx)) :=
   Hp.putObj (o:=.loop (rec .ready none)) (by simpa using hh2)
  have hh4:=hh3.drop
  have hh5:Hp P0 B w0 ((Z2 w.heap.size (.deferred (some []))::(hs++hk))++hFr a fr::hp) (w2.putObj (w.heap.size+1) (.loop rx)):=by simpa using hh4
  obtain ⟨hh6,hok⟩:=hh5.unghost hgb
  have e1:(Z2 w.heap.size (.deferred (some []))::(hs++hk))++hp=Z2 w.heap.size (.deferred (some []))::(hs++(hk++hp)):=by simp
  rw [e1] at hh6 hok
  have:=hpost w.heap.size hs _ hH hh6 hok
  simpa using this
end
section
open Go.RowKit
section
variable {P:Program} {ops:Array Oper} {hp:List HObj} {fr:List Dat} {d:Dat} {Q:ZAE} {rest:List Oper}
variable {dst:Option Tmp} {ty:TypeId} {ps:String} {af:Array Edge} {g:Option (Nat × Bool)} {b cap N bytes:Nat} {e t T T2:TypeId} {xs:List Vx} {z:Value} {ag:Bool}
theorem ZMG {x:Operand} {ad:Addr} {m c:Nat} (hx:OpD fr x (dX (.slice (some ad) m c))) (hq:∀ (x y:Operand) ad m c w,(do eqGuard .eql T x y (.slice ad m c) (.slice none 0 0);Go.binOp .eql T (.slice ad m c) (.slice none 0 0)).run P w = .ok (.bool ad.isNone) w) :
  SY P ops hp ⟨dst,.binOp .eql T x (.const (.slice none 0 0)) T2,ty,ps,af,g⟩ fr (dB false):=SY.val fun {I w a} ho=>by
 have hv:a.eval x = .slice (some ad) m c:=hx.get (by simp [Op.operands]) ho
 refine ⟨.bool false,?_,rfl⟩
 have:=hq x (.const (.slice none 0 0)) (some ad) m c w
 unfold execOp
 have hc:a.eval (.const (.slice none 0 0)) = .slice none 0 0:=rfl
 simp only [hv,hc]
 rw [Sem.run_bind,this]
 simp
theorem ZIv {I:Nat->Prop} {w:World} {v:Value} (h:w.ownsRow 0 e 2 v xs.length (ZT xs)):OwnK 0 e 2 RV I w v xs:=by
 refine ⟨xs.map ZLc,by simp,fun u hu=>?_,by decide,h,fun k h h'=>?_⟩
 ·obtain ⟨y,_,rfl⟩:=List.mem_map.1 hu
  exact ⟨rfl,by simp [ZLc,Value.oneCell']⟩
 ·show Value.agg _=_
  rw [List.getElem_map]
  rfl
theorem ZNs {I:Nat->Prop} {w:World} {v:Value} (h:OwnK 0 e 2 RV I w v xs):w.ownsRow 0 e 2 v xs.length (ZT xs):=by
 obtain ⟨us,h1,h2,h0,h3,h4⟩:=h
 have hus:=ZOY h1 h4
 subst hus
 exact h3
theorem ZO8 {s y:Operand} {dst2:Option Tmp} {ty2:TypeId} {ps2:String} {af2:Array Edge} {v:Value} {ys:List Vx} (E:ElT P t e 2 z bytes ag) (hs:OpD fr s (dX v)) (hy:OpD fr y (dX (.slice (some ⟨b,0,none⟩) N cap))) (hby:0<bytes)
  (hlen:(xs.length+ys.length)*bytes≤140737488355328) (h:∀ v',WL P ops Q rest (ZB fr dst2 (dX v')) (Zg v' e 2 RV (xs++ys)::hV b N cap e ys::hp)) :
  WL P ops Q (⟨dst2,.call { callee:=.builtin .append,args:=#[s,y],argTypes:=#[t,t] },ty2,ps2,af2,none⟩::rest) fr (Zg v e 2 RV xs::hV b N cap e ys::hp):=by
 refine WL.of fun P0 B w0 w a hh hf=>?_
 have hm:xs.length+ys.length≤maxLen:=by
  have:(xs.length+ys.length)*1≤(xs.length+ys.length)*bytes:=Nat.mul_le_mul_left _ hby
  simp only [maxLen];omega
 obtain ⟨hN,hrow⟩:=ZC8.1 (hh.ok (hV b N cap e ys) (by simp))
 subst hN
 obtain ⟨v',w',hr,r1,r2,r3⟩:=ZC3 (ty:=ty2) E hh (ad:=⟨b,0,none⟩) (c:=cap) (ys:=ys) (news:=ys.map ZLc) (by simp) (fun j u hu=>by
   have hlt:=(List.getElem?_eq_some_iff.1 hu).1
   have h2:(ys.map ZLc).flatten.length=ys.length*2:=ZY ys
   rw [h2] at hlt
   rw [Addr.add_lit,Nat.zero_add,(ZHk hrow j hlt).1]
   exact hu)
  (fun u hu=>by
   obtain ⟨x,_,rfl⟩:=List.mem_map.1 hu
   exact ⟨rfl,by simp [ZLc,Value.oneCell']⟩) (fun k h1 h2=>by
   show Value.agg _=_
   rw [List.getElem_map]
   rfl) hlen hm
 refine ZAy (v:=v) (yv:=_) (hs.ev hf) (hy.ev hf) hr ?_
 exact (h v').on r1 (Fr.put (x:=dst2) (hf.mono fun d _ hd=>ZN (o:=Zg v e 2 RV xs) (o':=Zg v' e 2 RV (xs++ys)) r2 r3 hd) (d:=dX v') rfl)
end
namespace I
section
variable {P:Program} {ops:Array Oper} {hp:List HObj} {fr:List Dat} {d:Dat} {Q:ZAE} {rest:List Oper}
variable {dst:Option Tmp} {ty:TypeId} {ps:String} {af:Array Edge} {g:Option (Nat × Bool)} {b cap N bytes:Nat} {e t T T2:TypeId} {xs:List Vx} {z:Value} {ag:Bool}
theorem ZJT {k:Nat} (hk:k≤xs.length) (h:WL P ops Q rest fr (hV b k cap e (xs.take k)::hp)):WL P ops Q rest fr (hV b N cap e xs::hp):=WL.of fun P0 B w0 w a hh hf=>by
 obtain ⟨hN,tl,hg,hc1,hc2,hc3⟩:=ZC8.1 (hh.ok (hV b N cap e xs) (by simp))
 have hgr:w.grownBy w (hV b N cap e xs).blk:=⟨rfl,rfl,rfl,Nat.le_refl _,fun _ _ _=>rfl⟩
 have e1:ZT xs++tl=ZT (xs.take k)++(ZT (xs.drop k)++tl):=by rw [<- List.append_assoc,<- ZAq,List.take_append_drop]
 have hok:(hV b k cap e (xs.take k)).ok (fun j=>Imm P0 B (hV b N cap e xs::hp) j/\j<w.heap.size) w :=
  ZC8.2 ⟨by simp;omega,ZT (xs.drop k)++tl,by rw [<- e1];exact hg,by simp;omega,hc2,by rw [<- e1];exact hc3⟩
 exact h.on (hh.write hgr (.inl rfl) hok) (hf.mono fun _ _ hd=>ZN (o':=hV b k cap e (xs.take k)) hgr (.inl rfl) hd)
end
end I
end
end Go.Proofs.YtokmalofdapffaaGreat
