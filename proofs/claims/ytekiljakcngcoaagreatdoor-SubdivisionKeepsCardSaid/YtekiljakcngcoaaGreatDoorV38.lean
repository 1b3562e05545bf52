/- Part 38: walks by contracts, and plain laws. -/
import Derived.Test.YtekiljakcngcoaaGreatDoorV34
set_option linter.unusedVariables false
set_option linter.unusedSimpArgs false
set_option linter.unusedSectionVars false
set_option maxRecDepth 100000
set_option maxHeartbeats 4000000
namespace Go.Proofs.YtekiljakcngcoaaGreatDoor
section
open Go.RowKit

abbrev ZDu:=List (List UInt8 × Int)
def kvS (l:List UInt8):Value:=.string ⟨l.toArray⟩
def okS (l:List UInt8):Prop:=l.length≤1000000
theorem ZJj:KeyT Tryz.prog 9 kvS okS where
 law:=Go.Maps.string_keyed Tryz.underlying9
 lit:=fun l hl=>by
  have hz:(⟨l.toArray⟩:ByteArray).size≤maxLen:=by
   unfold okS at hl
   simp only [ByteArray.size,List.size_toArray,maxLen]
   omega
  refine ⟨.string l,?_⟩
  unfold keyOf kvS
  simp [Tryz.underlying9,mapKey,hz]
 inj:=fun x y _ _ h=>by
  unfold kvS at h
  injection h with h
  injection h with h
  exact List.toArray_inj h
theorem ZDf:MapT Tryz.prog 61 9 3 (.int .i64 0):=⟨Tryz.underlying61,fun w=>by kernel_rfl⟩
theorem ZR7:TyI Tryz.prog 61 1 false:=⟨by kernel_rfl,Tryz.isAgg61⟩
theorem ZVc:TyZ Tryz.prog 61 (.map none):=⟨by kernel_rfl⟩
def ZFg (M:ZDu) (x:List Vx):ZDu:=if (lookM M (txS x)).isSome then M else ZBr M (txS x) (M.length:Int)
def ZSb (s:List Vx):Cx:=(List.range s.length).flatMap fun k=>Zw (k+1) s
def ZFW (l:Cx):Cx:=l.flatMap ZSb
def ZA2 (l:Cx):ZDu:=(ZFW l).foldl ZFg []
theorem ZOc {l:Cx} {i:Nat} (h:i<l.length):ZFW (l.take (i+1))=ZFW (l.take i)++ZSb l[i]:=by
 unfold ZFW;rw [List.take_succ_eq_append_getElem h,List.flatMap_append];simp
theorem ZFs {M:ZDu} {x:List UInt8} (h:(lookM M x).isSome=false):∀ p∈M,p.1≠x:=fun p hp he=>by
 have h1:(lookM M x).isSome=true:=by
  unfold lookM
  rw [Option.isSome_map,List.find?_isSome]
  exact ⟨p,hp,by simpa using he⟩
 rw [h] at h1;cases h1
theorem ZPA {M:ZDu} {x:List Vx} (h:(M.map (·.1)).Nodup):((ZFg M x).map (·.1)).Nodup:=by
 unfold ZFg
 split
 ·exact h
 ·rename_i hn
  have hn:(lookM M (txS x)).isSome=false:=by simpa using hn
  have hne:=ZFs hn
  rw [ZBx hne,List.map_append,List.nodup_append]
  refine ⟨h,by simp,?_⟩
  intro a ha b hb
  obtain ⟨p,hp,rfl⟩:=List.mem_map.1 ha
  have:b=txS x:=by simpa using hb
  rw [this]
  exact hne p hp
theorem ZEm:∀ (o:Cx) {M:ZDu},(M.map (·.1)).Nodup->((o.foldl ZFg M).map (·.1)).Nodup
 | [],_,h=>h
 | _::o,_,h=>ZEm o (ZPA h)
theorem ZRd (M:ZDu) (x:List Vx):(ZFg M x).length≤M.length+1:=by
 unfold ZFg
 split
 ·omega
 ·rename_i hn
  have hn:(lookM M (txS x)).isSome=false:=by simpa using hn
  rw [ZBx (ZFs hn),List.length_append];simp
theorem ZMC:∀ (o:Cx) (M:ZDu),(o.foldl ZFg M).length≤M.length+o.length
 | [],_=>by simp
 | x::o,M=>by
  have h1:=ZMC o (ZFg M x)
  have h2:=ZRd M x
  rw [List.foldl_cons,List.length_cons]
  omega
theorem FinD.mapN {hp:List HObj} {b:Nat} {M:ZDu} (hm:hM b kvS vvI M∈hp):FinD hp (dX (.map (some b))) (dS (ZHU kvS RI) M):=FinD.mk fun {P0 B w0 w u} hh hd=>by
 have hb:w.heap[b]?=some (ZAH _):=hh.ok _ hm
 refine ⟨b,M.map fun p=>vvI p.2,hd,ZDg hh hm rfl,by simp,?_,fun k h1 h2=>?_⟩
 ·rw [hb]
  congr 2
  unfold ZAO
  rw [List.zip_map',List.map_map]
  rfl
 ·simp only [List.getElem_map]
  exact rfl
theorem ZTz {M:ZDu} {x:List Vx} (hx:okS (txS x)) (h:∀ p∈M,okS p.1):∀ p∈ZFg M x,okS p.1:=fun p hp=>by
 unfold ZFg at hp
 split at hp
 ·exact h p hp
 ·rename_i hn
  rw [ZBx (ZFs (by simpa using hn))] at hp
  rcases List.mem_append.1 hp with hp|hp
  ·exact h p hp
  ·cases List.mem_singleton.1 hp
   exact hx
theorem ZIK:∀ (o:Cx) {M:ZDu},(∀ x∈o,okS (txS x))->(∀ p∈M,okS p.1)->∀ p∈o.foldl ZFg M,okS p.1
 | [],_,_,h=>h
 | x::o,_,hx,h=>ZIK o (fun y hy=>hx y (List.mem_cons_of_mem _ hy)) (ZTz (hx x (List.mem_cons_self ..)) h)
def ZSF (l:Cx):Prop:=∀ s∈l,∀ v∈s,(0≤v.1/\v.1<100)/\0≤v.2/\v.2<100
theorem ZK1 {s:List Vx} (h:s.length≤8) (k:Nat):(Zw k s).length≤256:=Nat.le_trans (ZCB _ _) (Nat.pow_le_pow_right (by decide) h:2 ^ s.length≤2 ^ 8)
theorem ZCZ {α:Type} (f:α->Cx) (B:Nat):∀ l:List α,(∀ s∈l,(f s).length≤B)->(l.flatMap f).length≤B*l.length
 | [],_=>Nat.zero_le _
 | s::l,h=>by
  have h1:=h s (List.mem_cons_self ..)
  have h2:=ZCZ f B l fun t ht=>h t (List.mem_cons_of_mem _ ht)
  rw [List.flatMap_cons,List.length_append,List.length_cons,Nat.mul_succ]
  omega
theorem ZQ7 {s:List Vx} (h:s.length≤8):(ZSb s).length≤2048:=by
 have h1:=ZCZ (fun k=>Zw (k+1) s) 256 (List.range s.length) fun k _=>ZK1 h _
 rw [List.length_range] at h1
 unfold ZSb
 omega
theorem ZQ6 {l:Cx} (h:∀ s∈l,s.length≤8):(ZFW l).length≤2048*l.length:=ZCZ ZSb 2048 l fun s hs=>ZQ7 (h s hs)
end
section
open Go.RowKit
structure SeqN (P:Program) (gf:FuncId) (lb:List Value) (hk:List HObj) {α:Type} (D:α->Dat) (xs:List α) (N:Nat):Prop where
 out:∀ (l:Nat) (J:List α->List HObj->Prop),YStep P l D J N->∀ js,J [] js->CallC P gf (dX (.func (.yield l) #[] #[])::lb.map dX) (js++hk) (fun _ hp2=>∃ js',J xs js'/\hp2=js'++hk)
theorem ZP3 {P:Program} {g:Operand} {p:Tmp} {assign body:Code} {Q:Exit->Act->World->Prop} {P0:Nat->Prop} {B:Nat} {w0 w:World} {a:Act} {fr:List Dat} {gf:FuncId} {lb:List Value} {hk hp hs0:List HObj} {α:Type} {D:α->Dat} {xs:List α} (H:List α->List HObj->Prop) (F0:List Dat) (F1:α->List Dat)
  (hh:Hp P0 B w0 (hs0++(hk++hp)) w) (hf:Fr (Imm P0 B (hs0++(hk++hp))) w { tmps:=a.tmps,defers:=[] } fr) (hg:OpD fr g (dX (.func (.func gf) #[] lb.toArray))) (he:ZAn P gf) {N:Nat} (hS:SeqN P gf lb hk D xs N) (h0:H [] hs0) (hF:FixF fr F0)
  (hassign:∀ (l:Nat) (x:α) (q:List HObj),WR P l (fun e f q'=>e = .normal/\q'=q/\f=F1 x) assign (F0.set p (D x)) q)
  (hbody:∀ (l:Nat) (pre:List α) (x:α) (hs q:List HObj),pre.length<N->H pre hs->WR P l (fun e _ q'=>e = .normal/\∃ hs',H (pre++[x]) hs'/\q'=hs'++q) body (F1 x) (hs++q))
  (hpost:∀ (k:Nat) (hs:List HObj) (w':World),H xs hs->Hp P0 B w0 (ZAt k (.deferred (some []))::(hs++(hk++hp))) w'->(∀ (t:Nat) (d:Dat),fr[t]?=some d->d.rd (Imm P0 B (ZAt k (.deferred (some []))::(hs++(hk++hp)))) w' (a.tmps.getD t undef)) ->
   Q .normal { a with defers:={ target:=.collected k,args:=#[] }::a.defers } w'):(Code.rangeFunc g #[p] assign body).wp P Q a w:=by
 refine (wpIn_wide (n:=0)).1 (wpIn_rangeFunc ?_)
 intro fn hfn
 rw [show Fence.wide.round=none from rfl]
 obtain ⟨rec,hrec⟩:∃ rec:LoopState->Option Code->Loop,rec=fun st pe=>{ state:=st,pending:=pe,fn,tmps:=a.tmps,params:=#[p],assign,body,defers:=w.heap.size }:=⟨_,rfl⟩
 obtain ⟨W1,hW1⟩:∃ W1,(w.alloc (.deferred (some []))).alloc (.loop (rec .ready none))=W1:=⟨_,rfl⟩
 have hgb:(hFr a fr).blk=none:=rfl
 have hG:Hp P0 B w0 (hs0++(hk++(hFr a fr::hp))) w:=by
  have:=ZBT (l:=hs0++hk) (hp:=hp) hgb (by rw [List.append_assoc];exact hh) (by rw [List.append_assoc];exact hf.rd)
  rw [List.append_assoc] at this
  exact this
 have hA:Hp P0 B w0 (ZAt w.heap.size (.deferred (some []))::(hs0++(hk++(hFr a fr::hp)))) (w.alloc (.deferred (some []))) :=
  hG.push (Ext.of_alloc _ _) (fun k hk=>by cases hk;simp) (World.alloc_heap_new w _)
 have hB:Hp P0 B w0 (ZAt (w.heap.size+1) (.loop (rec .ready none))::ZAt w.heap.size (.deferred (some []))::(hs0++(hk++(hFr a fr::hp)))) W1:=by
  rw [<- hW1]
  refine hA.push (Ext.of_alloc _ _) (fun k hk=>by cases hk;simp) ?_
  have:=World.alloc_heap_new (w.alloc (.deferred (some []))) (.loop (rec .ready none))
  rwa [World.size_alloc] at this
 have hJ0:(∃ hs,H [] hs/\(ZAt (w.heap.size+1) (.loop (rec .ready none))::ZAt w.heap.size (.deferred (some []))::hs0)=ZAt (w.heap.size+1) (.loop (rec .ready none))::ZAt w.heap.size (.deferred (some []))::hs):=⟨hs0,h0,rfl⟩
 have hY:YStep P (w.heap.size+1) D (fun pre js=>∃ hs,H pre hs/\js=ZAt (w.heap.size+1) (.loop (rec .ready none))::ZAt w.heap.size (.deferred (some []))::hs) N:=⟨fun P0' B' w0' hpX pre js x u W hlt ⟨hs,hH,hjs⟩ hhW hu=>by
  subst hjs
  have hl:W.heap[w.heap.size+1]?=some (.loop (rec .ready none)):=hhW.ok (ZAt (w.heap.size+1) (.loop (rec .ready none))) (by simp)
  have hy:=run_yield (P:=P) (args:=#[u]) hl (by rw [hrec];simp)
  refine ⟨_,_,_,_,hy,roundIn_of_wpIn trivial ?_⟩
  have ha:(rec .ready none).assign=assign:=by rw [hrec]
  have hbd:(rec .ready none).body=body:=by rw [hrec]
  have ht:(rec .ready none).params=#[p]:=by rw [hrec]
  have htm:(rec .ready none).tmps=a.tmps:=by rw [hrec]
  rw [ha,hbd,ht,htm]
  have hfrR:Fr (Imm P0' B' (ZAt (w.heap.size+1) (.loop (rec .ready none))::ZAt w.heap.size (.deferred (some []))::hs++hpX)) W { tmps:=a.tmps.setIfInBounds p u,defers:=[] } (F0.set p (D x)) :=
   Fr.put (x:=some p) (hF.fr hf) hu
  refine wpIn_mono (Q:=ZCE (fun e f q'=>e = .normal/\q'=ZAt (w.heap.size+1) (.loop (rec .ready none))::ZAt w.heap.size (.deferred (some []))::hs++hpX/\f=F1 x) P0' B' w0') ?_ ?_
  ·exact (hassign (w.heap.size+1) x _).out P0' B' w0' W _ hhW (by simpa using hfrR)
  rintro e a1 w1 ⟨f1,q1,⟨rfl,rfl,rfl⟩,hh1,hf1⟩
  have hl1:w1.heap[w.heap.size+1]?=some (.loop (rec .ready none)):=hh1.ok (ZAt (w.heap.size+1) (.loop (rec .ready none))) (by simp)
  refine ⟨_,run_beginRound hl1 (by rw [hrec]),?_⟩
  have hbz:({ rec .ready none with state:=.busy }:Loop)=rec .busy none:=by rw [hrec]
  rw [hbz]
  have hh2:Hp P0' B' w0' (ZAt (w.heap.size+1) (.loop (rec .busy none))::(ZAt w.heap.size (.deferred (some []))::(hs++hpX))) (w1.putObj (w.heap.size+1) (.loop (rec .busy none))):=Hp.putObj (o:=.loop (rec .ready none)) hh1
  have hf2:Fr (Imm P0' B' (ZAt (w.heap.size+1) (.loop (rec .busy none))::(ZAt w.heap.size (.deferred (some []))::(hs++hpX)))) (w1.putObj (w.heap.size+1) (.loop (rec .busy none))) a1 (F1 x):=hf1.mono fun d v hd=>ZAg (o:=.loop (rec .ready none)) hd
  obtain ⟨hh3,hI3⟩:=hh2.perm ZCd
  refine wpIn_mono ((hbody (w.heap.size+1) pre x hs _ hlt hH).out P0' B' w0' _ _ hh3 (hf2.mono fun d v hd=>d.weak hd fun k hk=>(hI3 k).1 hk)) ?_
  rintro e a3 w3 ⟨f3,q3,⟨rfl,hs',hH',rfl⟩,hh4,hf4⟩
  obtain ⟨hh5,_⟩:=hh4.perm ZCd.symm
  have hl3:w3.heap[w.heap.size+1]?=some (.loop (rec .busy none)):=hh5.ok (ZAt (w.heap.size+1) (.loop (rec .busy none))) (by simp)
  have hrz:({ rec .busy none with state:=if (none:Option Code).isNone then .ready else .done,pending:=none }:Loop)=rec .ready none:=by rw [hrec];rfl
  have hend:=run_endRound (P:=P) none hl3
  rw [hrz] at hend
  refine ⟨_,_,hend,rfl,_,⟨hs',hH',rfl⟩,?_⟩
  exact Hp.putObj (o:=.loop (rec .busy none)) hh5⟩
 have hC:=(hS.out (w.heap.size+1) _ hY _ hJ0).out P0 B w0 (hFr a fr::hp) (.func (.yield (w.heap.size+1)) #[] #[]::lb) W1 (by simpa using hB) (by simp) (fun i d hd=>by
  cases i with
  | zero=>simp at hd;subst hd;rfl
  | succ i =>
   simp only [List.getElem?_cons_succ,List.getElem?_map] at hd
   cases hq:lb[i]? with
   | none=>rw [hq] at hd;cases hd
   | some u=>rw [hq] at hd;cases hd;simp [List.getD,hq];rfl)
 refine ⟨w.heap.size+1,[{ target:=.collected w.heap.size,args:=#[] }],W1,{ target:=.fn (.func gf) lb.toArray,args:=#[.func (.yield (w.heap.size+1)) #[] #[]] },W1,gf,
  (.func (.yield (w.heap.size+1)) #[] #[]::lb).toArray,W1,?_,?_,fun _ _=>trivial,?_,fun h=>by simp [Fence.wide] at h,?_⟩
 ·rw [<- hW1,hrec];exact run_enterLoop_outer _ _ _ _ _
 ·have hev0:({ tmps:=a.tmps,defers:=[] }:Act).eval g = .func (.func gf) #[] lb.toArray:=hg.ev hf
  have hev:a.eval g = .func (.func gf) #[] lb.toArray:=hev0
  simp only [resolve,hev]
  simp [go_sem]
 ·have:=he (.func (.yield (w.heap.size+1)) #[] #[]::lb).toArray W1
  simp [invoke,go_sem,this]
 ·refine callsIn_wide.2 (hC.mono ?_)
  rintro e w2 ⟨v,d,hp2,rfl,⟨js',⟨hs,hH,rfl⟩,rfl⟩,hh2,_⟩
  have hl2:w2.heap[w.heap.size+1]?=some (.loop (rec .ready none)):=hh2.ok (ZAt (w.heap.size+1) (.loop (rec .ready none))) (by simp)
  have hend:=run_endLoop (P:=P) hl2 (by rw [hrec];simp)
  have hpn:(rec .ready none).pending=none:=by rw [hrec]
  obtain ⟨rx,hrx⟩:∃ rx:Loop,rx={ rec .ready none with state:=.exhausted }:=⟨_,rfl⟩
  rw [<- hrx,hpn] at hend
  refine ⟨none,_,hend,?_⟩
  have hh3:Hp P0 B w0 (ZAt (w.heap.size+1) (.loop rx)::(ZAt w.heap.size (.deferred (some []))::(hs++(hk++(hFr a fr::hp))))) (w2.putObj (w.heap.size+1) (.loop rx)) :=
   Hp.putObj (o:=.loop (rec .ready none)) (by simpa using hh2)
  have hh4:=hh3.drop
  have hh5:Hp P0 B w0 ((ZAt w.heap.size (.deferred (some []))::(hs++hk))++hFr a fr::hp) (w2.putObj (w.heap.size+1) (.loop rx)):=by simpa using hh4
  obtain ⟨hh6,hok⟩:=hh5.unghost hgb
  have e1:(ZAt w.heap.size (.deferred (some []))::(hs++hk))++hp=ZAt w.heap.size (.deferred (some []))::(hs++(hk++hp)):=by simp
  rw [e1] at hh6 hok
  have:=hpost w.heap.size hs _ hH hh6 hok
  simpa using this
end
section
open Go.RowKit

def ZJq (m:Int):Bool:=decide (ZKn m (m-1)≠0)
theorem ZSk (m:Int) (h:0≤m/\m≤1048576):Fn Tryz.prog 68 [dI m] (dB (ZJq m)):=by
 (refine ZH Tryz.func68 rfl rfl ?_;simp only [Tryz.ntmps68,List.length_cons,List.length_nil,Nat.reduceAdd,Nat.reduceSub,List.replicate_succ,List.replicate_zero,List.cons_append,List.nil_append])
 ((repeat' (first|(apply WL.opN;exact yF;dsimp only [ZA,z0,z1])|refine WL.nil ?_|refine ZC fun Kx hK=>?_|(refine hK _ _ ?_;clear hK)|refine WC.region ?_|(apply WL.opN;(focus ((first|((first|apply SY.move|apply SY.assign|apply SY.neq|apply SY.and) <;> (exact oD))|((first|apply SY.sub) <;> first|exact oD|omega)|fail);all_goals infer_instance));dsimp only [ZA,z0,z1])|refine WC.ret ?_));all_goals (first|((repeat clear hK);(repeat clear Kx))))
 (refine ⟨trivial,_,rfl,?_⟩;refine FinD.b ?_)
 unfold ZJq
 simp
def ZGb (r:Nat):List (List Nat):=(ZCD r).filter fun bl=>!((ZAa bl).any ZJq)
theorem ZRh (r:Nat):CallC Tryz.prog 34 ([dI (r:Int)]++([]:List Value).map dX) [] (fun d hp2=>∃ vr,d=dX (.func (.func 66) #[] [vr].toArray)/\hp2=[ZAI vr (dP 1 false (dI (r:Int)))]):=by
 (refine ZAD Tryz.func34 rfl rfl (fun hp=>?_);simp only [Tryz.ntmps34,List.length_cons,List.length_nil,List.length_append,List.length_map,Nat.reduceAdd,Nat.reduceSub,List.replicate_succ,List.replicate_zero,List.cons_append,List.nil_append,List.map_cons,List.map_nil,List.append_assoc])
 ((repeat' (first |  (refine ZF5 (d:=dP 1 false (dI (r:Int))) 1 rfl fun vr=>?_;dsimp only [z0,z1])|(apply WL.opN;exact yF;dsimp only [ZA,z0,z1])|refine WL.nil ?_|refine ZC fun Kx hK=>?_|(refine hK _ _ ?_;clear hK)|refine WC.region ?_|(apply WL.opN;(focus ((first|(apply ZDU;repeat (first|exact ArgsX.nil|(apply ArgsX.cons;exact OpD.t rfl)))|(apply SY.box;(exact oD);(exact hD))|fail);all_goals infer_instance));dsimp only [ZA,z0,z1])|refine WC.ret ?_));all_goals (first|((repeat clear hK);(repeat clear Kx))))
 exact ⟨trivial,_,[_],rfl,rfl,vr,rfl,rfl⟩
theorem ZVj {P:Program} {l:Nat} {α:Type} {D:α->Dat} {J:List α->List HObj->Prop} {N:Nat} (hY:YStep P l D J N):YStepE P l D J (fun _ _=>False) N :=
 ⟨fun P0 B w0 hp pre js x u W hn hj hh hu=>ZKH (hY.out P0 B w0 hp pre js x u W hn hj hh hu) fun _ _ ⟨he,js',hj',hh'⟩=>⟨true,he,js',hj',hh'⟩⟩
theorem I.WL.yieldT {P:Program} {ops:Array Oper} {hp:List HObj} {fr:List Dat} {Q:ZAW} {rest:List Oper} {dst:Option Tmp} {ty:TypeId} {ps:String} {af:Array Edge} {l:Nat} {α:Type} {D:α->Dat} {J:List α->List HObj->Prop} {t gi s:Nat} {pol:Bool} {x:Operand} {ats:Array TypeId} {pre:List α} {js:List HObj} {y:α} {N:Nat} (hs:(ops[gi]?).bind (·.dst)=some s) (hb:fr[s]?=some (dB pol)) (hy:YStep P l D J N) (hn:pre.length<N) (hj:J pre js) (ht:OpD fr (.tmp t) (dX (.func (.yield l) #[] #[]))) (hx:OpD fr x (D y))
  (h:∀ js',J (pre++[y]) js'->I.WL P ops Q rest (ZA fr dst (dB true)) (js'++hp)) :
  I.WL P ops Q (⟨dst,.call { callee:=.value (.tmp t),args:=#[x],argTypes:=ats },ty,ps,af,some (gi,pol)⟩::rest) fr (js++hp) :=
 I.ZNg hs hb (ZVj hy) hn hj ht hx fun b js' hj'=>by
  cases b with
  | true=>exact h js' (by simpa using hj')
  | false=>simp at hj'
def sinH (l:Nat) (v2:Value) (J:List (List Nat)->List HObj->Prop) (pre:List (List Nat)) (hs:List HObj):Prop :=
 ∃ js,J (pre.filter fun bl=>!((ZAa bl).any ZJq)) js/\hs=js++[ZAI v2 (dP 1 false (dX (.func (.yield l) #[] #[])))]
theorem ZJw (r:Nat) (hr:r<32):∀ bl∈ZCD r,∀ b∈bl,b<32:=by
 have go:∀ (k r:Nat),∀ bl∈ZFZ k r,∀ b∈bl,b≤r:=fun k=>by
  induction k with
  | zero=>intro r bl hbl b hb;simp [ZFZ] at hbl;subst hbl;cases hb
  | succ k ih =>
   intro r bl hbl b hb
   by_cases h0:r=0
   ·subst h0
    rw [ZGa] at hbl
    simp at hbl
    subst hbl
    cases hb
   ·rw [ZEo h0] at hbl
    obtain ⟨c,hc,hbl⟩:=List.mem_flatMap.1 hbl
    obtain ⟨x,hx,rfl⟩:=List.mem_map.1 hbl
    have hc2:=(ZPp.1 hc).2.1
    rcases List.mem_cons.1 hb with rfl|hb
    ·exact hc2
    ·have:=ih _ x hx b hb;omega
 intro bl hbl b hb
 have:=go 6 r bl hbl b hb
 omega
theorem ZRg (r:Nat):∀ bl∈ZCD r,bl.length≤6:=by
 have go:∀ (k r:Nat),∀ bl∈ZFZ k r,bl.length≤k:=fun k=>by
  induction k with
  | zero=>intro r bl hbl;simp [ZFZ] at hbl;subst hbl;simp
  | succ k ih =>
   intro r bl hbl
   by_cases h0:r=0
   ·subst h0
    rw [ZGa] at hbl
    simp at hbl
    subst hbl
    simp
   ·rw [ZEo h0] at hbl
    obtain ⟨c,hc,hbl⟩:=List.mem_flatMap.1 hbl
    obtain ⟨x,hx,rfl⟩:=List.mem_map.1 hbl
    have:=ih _ x hx
    simp
    omega
 exact go 6 r
theorem ZRk {a b c:HObj} {js hp:List HObj}:(a::b::c::(js++hp)).Perm ((js++[b])++([a]++(c::hp))):=by
 have h:((js++[b])++([a]++(c::hp))).Perm ([b]++js++([a]++(c::hp))):=List.Perm.append_right _ List.perm_append_comm
 refine List.Perm.trans ?_ h.symm
 simp only [List.cons_append,List.nil_append]
 have h2:(js++a::c::hp).Perm (a::c::(js++hp)):=List.perm_middle.trans (List.Perm.cons a List.perm_middle)
 exact (List.Perm.swap b a _).trans (List.Perm.cons b h2.symm)
theorem ZJ1 {a b c:HObj} {js hp:List HObj}:((js++[b])++([a]++(c::hp))).Perm (a::b::((js++[c])++hp)):=by
 refine ZRk.symm.trans (List.Perm.cons a (List.Perm.cons b ?_))
 rw [List.append_assoc]
 exact List.perm_middle.symm
set_option maxHeartbeats 8000000 in
theorem ZT5 (r:Nat) (h0:r≠0) (hr:r<32) (vr:Value):SeqN Tryz.prog 66 [vr] [ZAI vr (dP 1 false (dI (r:Int)))] (fun x=>dIf (x∈ZGb r) (dS ZCC (ZAa x))) (ZGb r) (ZCD r).length:=⟨fun l J hY js hj=>⟨fun P0 B w0 hp vs W hh hl0 hv=>by
 refine (callsIn_wide (n:=0)).1 (callsIn_of_wp_marks Tryz.func66 rfl trivial ?_ rfl)
 refine wpIn_wide.2 ?_
 have hf0:=ZBI (m:=16) hl0 hv
 have hsz:vs.toArray.size=2:=by simpa using hl0
 rw [hsz]
 have hnt:Tryz.f66.ntmps=18:=rfl
 rw [hnt]
 simp only [List.length_cons,List.length_nil,Nat.reduceAdd,Nat.reduceSub,List.replicate_succ,List.replicate_zero,List.cons_append,List.nil_append,List.map_nil,List.map_cons] at hf0 hh ⊢
 refine wp_seq (Code.wp_mono ?_ (WC.on (Q:=fun e f q=>e = .normal/\f=[dX (.func (.yield l) #[] #[]),dX vr,dP 1 false (dX (.func (.yield l) #[] #[]))]++List.replicate 15 (dX undef)/\q=js++[ZAI vr (dP 1 false (dI (r:Int)))]++hp) ?_ hh hf0))
 rotate_left
 ·((repeat' (first|refine WL.nil ?_|refine WC.region ?_|(apply ZS;(focus (first|exact wN|(apply SYG.yes;(exact wY);((first|(apply SY.box;(exact oD);(exact hD))|fail);all_goals infer_instance))));dsimp only [ZA,z0,z1])));all_goals (first|((repeat clear hK);(repeat clear Kx))))
  exact ⟨rfl,rfl,rfl⟩
 rintro e a1 w1 ⟨f1,q1,⟨rfl,rfl,rfl⟩,hh1,hf1⟩
 show Code.wp _ _ _ _ _
 simp only [List.replicate_succ,List.replicate_zero,List.cons_append,List.nil_append] at hf1 hh1
 refine wp_seq (Code.wp_mono ?_ (WC.on (Q:=fun e f q=>e = .normal/\∃ v2 vq,f=[dX (.func (.yield l) #[] #[]),dP 1 false (dI (r:Int)),dX v2,dX undef,dX undef,dI (r:Int),dX (.func (.func 77) #[] [vq].toArray)]++List.replicate 11 (dX undef)
   /\ q=(js++[ZAI v2 (dP 1 false (dX (.func (.yield l) #[] #[])))])++([ZAI vq (dP 1 false (dI (r:Int)))]++(ZAI vr (dP 1 false (dI (r:Int)))::hp))) ?_ hh1 hf1))
 rotate_left
 ·refine ZF5 2 rfl fun v2=>?_
  refine ZF6 (d:=dP 1 false (dI (r:Int))) 1 rfl (.tail _ (List.mem_append_left _ (List.mem_append_right _ (.head _)))) ?_
  dsimp only [z0,z1]
  ((repeat' (first|(apply WL.opN;exact yF;dsimp only [ZA,z0,z1])|refine WL.nil ?_|refine WC.region ?_ |  (refine ZAT (hp1:=[]) (caps:=[]) (ZGc r) Tryz.call46 OpD.f (by (exact aD)) ?_;rintro d' hp2 ⟨vq,rfl,rfl⟩;dsimp only [ZA,z0,z1,List.cons_append,List.nil_append];refine WL.perm (ZJ1 (js:=js)).symm ?_)));all_goals (first|((repeat clear hK);(repeat clear Kx))))
  exact ⟨rfl,_,_,rfl,rfl⟩
 rintro e a2 w2 ⟨f2,q2,⟨rfl,v2,vq,rfl,rfl⟩,hh2,hf2⟩
 show Code.wp _ _ _ _ _
 simp only [List.replicate_succ,List.replicate_zero,List.cons_append,List.nil_append] at hf2
 refine wp_block ?_
 refine ZEw (hs0:=js++[ZAI v2 (dP 1 false (dX (.func (.yield l) #[] #[])))]) (hk:=[ZAI vq (dP 1 false (dI (r:Int)))]) (hp:=ZAI vr (dP 1 false (dI (r:Int)))::hp) (xs:=ZCD r) (D:=fun bl=>dIf (bl∈ZCD r) (dS ZCC (ZAa bl))) (sinH l v2 J) _
  (fun bl=>[dX (.func (.yield l) #[] #[]),dA,dX v2,dIf (bl∈ZCD r) (dS ZCC (ZAa bl)),dX undef,dX (.int .i64 (r:Int)),dX (.func (.func 77) #[] [vq].toArray),dIf (bl∈ZCD r) (dS ZCC (ZAa bl)),dX undef,dX undef,dX undef,dX undef,dX undef,dX undef,dX undef,dX undef,dX undef,dX undef]) hh2 hf2 (OpD.t rfl) Tryz.call77 (ZPH r h0 hr vq) ⟨js,hj,rfl⟩ (by repeat (first|exact FixF.nil|apply FixF.x|apply FixF.a)) ?_ ?_ ?_
 ·intro l' bl q
  refine WR.region rfl (I.WL.op rfl (SY.assign (OpD.t rfl)) (I.WL.nil ⟨rfl,rfl,rfl⟩))
 ·rintro l' pre bl hs q hlt ⟨js1,hJ1,rfl⟩
  refine ZKU (t:=7) rfl (fun _ _ _ h=>h.1) fun hmem=>?_
  rw [ZLh hmem,List.append_assoc]
  have hbb:∀ m∈ZAa bl,0≤m/\m≤1048576:=fun m hm=>by
   obtain ⟨b,hb,rfl⟩:=List.mem_map.1 hm
   have:=ZJw r hr bl hmem b hb
   omega
  have hnN:(pre.filter fun bl=>!((ZAa bl).any ZJq)).length<(ZCD r).length:=Nat.lt_of_le_of_lt (List.length_filter_le _ _) hlt
  refine WR.block (ZLO (d:=dP 1 false (dX (.func (.yield l) #[] #[]))) 2 rfl (List.mem_append_right _ (.head _)) ?_)
  dsimp only [z0,z1]
  cases hsg:(ZAa bl).any ZJq with
  | true =>
   have hc:=ZOM (ZAa bl) ZJq
   rw [hsg] at hc
   ((repeat' (first|(apply I.WL.opN;exact yF;dsimp only [ZA,z0,z1])|refine I.WL.nil ?_|refine ZB4 fun Kx hK=>?_|(refine hK _ _ ?_;clear hK)|refine WR.region rfl ?_|(apply I.ZS;(focus (first|exact wN|(apply SYG.yes;(exact wY);((first|(apply SY.call hc Tryz.call67;exact ArgsD.cons (OpD.t rfl) (ArgsD.cons ⟨ZGY Tryz.call68 fun x=>ZSk x.1 (hbb x.1 x.2)⟩ ArgsD.nil))|(exact ZBs (OpD.t rfl))|(apply Z2;(exact oD);(with_reducible rfl);(exact oD))|fail);all_goals infer_instance))));dsimp only [ZA,z0,z1])|(apply ZCo;(exact oD);(with_reducible rfl))|refine WR.skip ?_|refine InBlockD.n ?_));all_goals (first|((repeat clear hK);(repeat clear Kx))))
   refine ⟨rfl,_,⟨js1,?_,rfl⟩,by rw [List.append_assoc]⟩
   rw [List.filter_append,List.filter_cons_of_neg (by rw [hsg];decide),List.filter_nil,List.append_nil]
   exact hJ1
  | false =>
   have hc:=ZOM (ZAa bl) ZJq
   rw [hsg] at hc
   have hmS:bl∈ZGb r:=List.mem_filter.2 ⟨hmem,by rw [hsg];rfl⟩
   ((repeat' (first|(apply I.WL.opN;exact yF;dsimp only [ZA,z0,z1])|refine I.WL.nil ?_|refine ZB4 fun Kx hK=>?_|(refine hK _ _ ?_;clear hK)|refine WR.region rfl ?_ |  (refine I.WL.yieldT (gi:=1) (s:=12) rfl rfl hY hnN hJ1 (OpD.t rfl) (OpD.tle rfl (ZSU hmS)) fun js' hj'=>?_;dsimp only [ZA,z0,z1])|(apply I.ZS;(focus (first|exact wN|(apply SYG.yes;(exact wY);((first|(apply SY.call hc Tryz.call67;exact ArgsD.cons (OpD.t rfl) (ArgsD.cons ⟨ZGY Tryz.call68 fun x=>ZSk x.1 (hbb x.1 x.2)⟩ ArgsD.nil))|(exact SY.not (b:=false) (OpD.t rfl))|(apply SY.load;exact tyFz;exact OpD.t rfl)|(exact ZBs (OpD.t rfl))|((first|apply SY.move|apply SY.assign|apply SY.not) <;> (exact oD))|(apply Zx;(exact oD);(with_reducible rfl);(exact oD))|fail);all_goals infer_instance))));dsimp only [ZA,z0,z1])|((first|refine I.Zl rfl rfl rfl (fun h=>?_) (fun h=>?_)|refine I.Zk rfl rfl rfl (fun h=>?_) (fun h=>?_)|refine I.Zj rfl rfl rfl (fun h=>?_) (fun h=>?_)) <;> (first|(exfalso;first|omega|contradiction)|(dsimp only [z0,z1])))|(apply ZCo;(exact oD);(with_reducible rfl))|refine WR.skip ?_|refine InBlockD.n ?_));all_goals (first|((repeat clear hK);(repeat clear Kx))))
   refine ⟨rfl,_,⟨js',?_,rfl⟩,by rw [List.append_assoc]⟩
   rw [List.filter_append,List.filter_cons_of_pos (by rw [hsg];decide),List.filter_nil]
   exact hj'
 ·rintro k hs w3 ⟨js1,hJ1,rfl⟩ hh3 hrd
  show LeavesInM _ _ _ _ _ _ _ _ _
  rw [hf2.defers]
  have hK:w3.heap[k]?=some (.deferred (some [])):=hh3.ok (ZAt k (.deferred (some []))) (by simp)
  refine ⟨by simp,.inl ⟨_,_,rfl,run_takeDeferred hK,_,results_none rfl _ _ _,?_⟩⟩
  have hh6:=(Hp.putObj (o':=.deferred none) hh3).drop
  obtain ⟨hh7,_⟩:=hh6.perm ZJ1
  exact ⟨_,dA,js1++[ZAI vr (dP 1 false (dI (r:Int)))],rfl,⟨js1,hJ1,rfl⟩,hh7.drop.drop,trivial⟩⟩⟩
end
section
open Go.RowKit
def ZTG (a:Act):Act:={ tmps:=a.tmps,defers:=[] }
structure WK (K:Act->World->Prop) (P0:Nat->Prop) (B:Nat) (w0:World) (ds:List Deferred) (fr:List Dat) (hp:List HObj):Prop where
 of ::
 out:∀ (a:Act) (w:World),a.defers=ds->Hp P0 B w0 hp w->Fr (Imm P0 B hp) w (ZTG a) fr->K a w
abbrev WY (P:Program) (QR:Exit->Act->World->Prop) (P0:Nat->Prop) (B:Nat) (w0:World) (ds:List Deferred) (c:Code) (fr:List Dat) (hp:List HObj):Prop:=WK (c.wp P QR) P0 B w0 ds fr hp
abbrev WV (P:Program) (ops:Array Oper) (QR:Exit->Act->World->Prop) (P0:Nat->Prop) (B:Nat) (w0:World) (ds:List Deferred) (rest:List Oper) (fr:List Dat) (hp:List HObj):Prop:=WK (wpList P ops QR rest) P0 B w0 ds fr hp
section
variable {P:Program} {ops:Array Oper} {QR:Exit->Act->World->Prop} {K:Act->World->Prop} {P0:Nat->Prop} {B:Nat} {w0:World} {ds:List Deferred} {fr fr':List Dat} {hp hp':List HObj} {o:Oper} {rest:List Oper} {d:Dat} {x y:Code}
theorem WK.perm (h:hp.Perm hp') (k:WK K P0 B w0 ds fr hp'):WK K P0 B w0 ds fr hp:=WK.of fun a w ha hh hf =>
 let ⟨h1,h2⟩:=hh.perm h
 k.out a w ha h1 (hf.mono fun d _ hd=>d.weak hd fun k hk=>(h2 k).1 hk)
theorem WK.drop {ob:HObj} (k:WK K P0 B w0 ds fr hp):WK K P0 B w0 ds fr (ob::hp):=WK.of fun a w ha hh hf=>k.out a w ha hh.drop (hf.mono fun d _ hd=>d.weak hd Imm.sub)
theorem ZLJ (h:LeF fr fr') (k:WK K P0 B w0 ds fr' hp):WK K P0 B w0 ds fr hp:=WK.of fun a w ha hh hf=>k.out a w ha hh (hf.weak h.out.1 h.out.2)
theorem WV.op (hg:o.guard=none) (h:SY P ops hp o fr d) (k:WV P ops QR P0 B w0 ds rest (ZA fr o.dst d) hp):WV P ops QR P0 B w0 ds (o::rest) fr hp:=WK.of fun a w ha hh hf =>
 ZBb hg h hh hf fun a' w' ha' hh' hf'=>k.out a' w' (ha'.trans ha) hh' hf'
theorem ZNh {β:Type} {H:β->List HObj} {D:β->Dat} (h:SW P ops hp H D o fr) (k:∀ x,WV P ops QR P0 B w0 ds rest (ZA fr o.dst (D x)) (H x)):WV P ops QR P0 B w0 ds (o::rest) fr hp:=WK.of fun a w ha hh hf=>by
 unfold wpList
 have hwant:Region.wanted o (yielded ops a.tmps)=true:=by simp [Region.wanted,h.guard]
 rw [if_pos hwant]
 refine .inl (h.out hh (a:=a) ⟨hf.size,fun t _ d hd=>hf.rd t d hd⟩ _ _ fun x v w' hh' hrd hd=>?_)
 have hf2:=Fr.put (x:=o.dst) (hf.mono fun d u hu=>hrd d u hu) hd
 refine (k x).out (a.put o.dst v) w' ?_ hh' ?_
 ·rw [<- ha];cases o.dst <;> rfl
 ·have e1:ZTG (a.put o.dst v)=(ZTG a).put o.dst v:=by cases o.dst <;> rfl
  rw [e1];exact hf2
theorem WY.region {id:Nat} {l:List Oper} (h:WV P l.toArray QR P0 B w0 ds l fr hp):WY P QR P0 B w0 ds (.region id l.toArray false) fr hp:=WK.of fun a w ha hh hf=>wp_region_lit (h.out a w ha hh hf)
theorem WY.seq (h:WY P (Exit.then (y.wp P QR) QR) P0 B w0 ds x fr hp):WY P QR P0 B w0 ds (.seq x y) fr hp:=WK.of fun a w ha hh hf=>wp_seq (h.out a w ha hh hf)
theorem WY.skip (h:WK (QR .normal) P0 B w0 ds fr hp):WY P QR P0 B w0 ds .skip fr hp:=WK.of fun a w ha hh hf=>wp_skip (h.out a w ha hh hf)
theorem WY.exit {id:Nat} (h:WK (QR (.exit id)) P0 B w0 ds fr hp):WY P QR P0 B w0 ds (.exit id) fr hp:=WK.of fun a w ha hh hf=>wp_exit (h.out a w ha hh hf)
theorem WY.ret (h:WK (QR .ret) P0 B w0 ds fr hp):WY P QR P0 B w0 ds .ret fr hp:=WK.of fun a w ha hh hf=>wp_ret (h.out a w ha hh hf)
theorem WY.block {id:Nat} (h:WY P (Exit.inBlock id QR) P0 B w0 ds x fr hp):WY P QR P0 B w0 ds (.block id x) fr hp:=WK.of fun a w ha hh hf=>wp_block (h.out a w ha hh hf)
theorem WY.condT {c:Operand} {b:Bool} (hc:OpD fr c (dB b)) (hb:b=true) (h:WY P QR P0 B w0 ds x fr hp):WY P QR P0 B w0 ds (.cond c x y) fr hp:=WK.of fun a w ha hh hf=>by
 have hev:(ZTG a).eval c = .bool b:=hc.ev hf
 exact wp_cond_true (by rw [hb] at hev;exact hev) (h.out a w ha hh hf)
theorem ZQd {c:Operand} {b:Bool} (hc:OpD fr c (dB b)) (hb:b=false) (h:WY P QR P0 B w0 ds y fr hp):WY P QR P0 B w0 ds (.cond c x y) fr hp:=WK.of fun a w ha hh hf=>by
 have hev:(ZTG a).eval c = .bool b:=hc.ev hf
 exact wp_cond_false (by rw [hb] at hev;exact hev) (h.out a w ha hh hf)
theorem ZC8 (h:∀ Kx:List Dat->List HObj->Prop,(∀ f p,WY P QR P0 B w0 [] y f p->Kont Kx f p)->WC P (ThenD (Kont Kx) (fun _ _ _=>False)) x fr hp):WY P QR P0 B w0 [] (.seq x y) fr hp:=WK.of fun a w ha hh hf=>by
 have ha2:ZTG a=a:=by cases a;cases ha;rfl
 rw [ha2] at hf
 refine wp_seq (Code.wp_mono ?_ ((h (fun f p=>WY P QR P0 B w0 [] y f p) fun f p k=>⟨k⟩).on hh hf))
 rintro e a' w' ⟨f,p,q,hh',hf'⟩
 cases e with
 | normal =>
  have hk:Kont (fun f p=>WY P QR P0 B w0 [] y f p) f p:=q
  have ha3:ZTG a'=a':=by
   have:=hf'.defers
   cases a';cases this;rfl
  exact hk.out.out a' w' hf'.defers hh' (by rw [ha3];exact hf')
 | _=>exact (q:False).elim
theorem WY.loop {X:Type} {c:Code} (F:X->List Dat) (H:X->List HObj) (D:X->List Deferred) (μ:X->Nat) (p:X->Prop) (x0:X) (h0:p x0)
  (round:∀ (x:X) (K:Act->World->Prop),p x->(∀ x',p x'->μ x'<μ x->WK K P0 B w0 (D x') (F x') (H x'))->WY P (Exit.then K QR) P0 B w0 (D x) c (F x) (H x)) :
  WY P QR P0 B w0 (D x0) (.loop c) (F x0) (H x0):=by
 have key:∀ (n:Nat) (x:X),p x->μ x<n->WK (Code.rounds P c QR n) P0 B w0 (D x) (F x) (H x):=by
  intro n
  induction n with
  | zero=>intro x _ h;omega
  | succ n ih=>exact fun x hx hn=>WK.of fun a w ha hh hf=>(round x (Code.rounds P c QR n) hx fun x' hx' hlt=>ih x' hx' (by omega)).out a w ha hh hf
 exact WK.of fun a w ha hh hf=>wp_loop_rounds _ ((key (μ x0+1) x0 h0 (by omega)).out a w ha hh hf)
theorem WY.loopU {X:Type} {c:Code} {D:X->List Deferred} (ups:X->List (Nat × Dat)) (H:X->List HObj) (μ:X->Nat) (p:X->Prop) (x0:X) (h0:p x0) (hF:LeF fr (Za fr (ups x0))) (hH:hp=H x0) (hD:ds=D x0)
  (round:∀ (x:X) (K:Act->World->Prop),p x->(∀ x',p x'->μ x'<μ x->WK K P0 B w0 (D x') (Za fr (ups x')) (H x'))->WY P (Exit.then K QR) P0 B w0 (D x) c (Za fr (ups x)) (H x)):WY P QR P0 B w0 ds (.loop c) fr hp:=by
 subst hH
 subst hD
 exact ZLJ hF (WY.loop (fun x=>Za fr (ups x)) H D μ p x0 h0 round)
theorem ZGA (k:WK K P0 B w0 ds fr hp):WV P ops (Exit.then K QR) P0 B w0 ds [] fr hp:=k
theorem ZQe (k:WK K P0 B w0 ds fr hp):WY P (Exit.then K QR) P0 B w0 ds .skip fr hp:=WY.skip k
theorem ZI0 {id:Nat} (k:WK (QR .normal) P0 B w0 ds fr hp):WK (Exit.inBlock id QR .normal) P0 B w0 ds fr hp:=k
theorem ZLI {id:Nat} (k:WK (QR (.exit id)) P0 B w0 ds fr hp):WK (Exit.then K QR (.exit id)) P0 B w0 ds fr hp:=k
theorem ZLH (k:WK K P0 B w0 ds fr hp):WK (Exit.then K QR .normal) P0 B w0 ds fr hp:=k
theorem ZNR {id:Nat} (k:WK (QR .normal) P0 B w0 ds fr hp):WK (Exit.inBlock id QR (.exit id)) P0 B w0 ds fr hp:=WK.of fun a w ha hh hf=>by
 show (if id=id then QR .normal a w else QR (.exit id) a w)
 rw [if_pos rfl]
 exact k.out a w ha hh hf
end
theorem WY.range {P:Program} {QR:Exit->Act->World->Prop} {P0:Nat->Prop} {B:Nat} {w0:World} {ds:List Deferred} {g:Operand} {p:Tmp} {assign body:Code} {fr:List Dat} {gf:FuncId} {lb:List Value} {hk hp hs0:List HObj} {α:Type} {D:α->Dat} {xs:List α} (H:List α->List HObj->Prop) (F0:List Dat) (F1:α->List Dat)
  (hg:OpD fr g (dX (.func (.func gf) #[] lb.toArray))) (he:ZAn P gf) {N:Nat} (hS:SeqN P gf lb hk D xs N) (h0:H [] hs0) (hF:FixF fr F0)
  (hassign:∀ (l:Nat) (x:α) (q:List HObj),WR P l (fun e f q'=>e = .normal/\q'=q/\f=F1 x) assign (F0.set p (D x)) q)
  (hbody:∀ (l:Nat) (pre:List α) (x:α) (hs q:List HObj),pre.length<N->H pre hs->WR P l (fun e _ q'=>e = .normal/\∃ hs',H (pre++[x]) hs'/\q'=hs'++q) body (F1 x) (hs++q))
  (hpost:∀ (k:Nat) (hs:List HObj),H xs hs->WK (QR .normal) P0 B w0 ({ target:=.collected k,args:=#[] }::ds) fr (ZAt k (.deferred (some []))::(hs++(hk++hp)))) :
  WY P QR P0 B w0 ds (.rangeFunc g #[p] assign body) fr (hs0++(hk++hp)):=WK.of fun a w ha hh hf=>by
 refine ZP3 H F0 F1 hh hf hg he hS h0 hF hassign hbody fun k hs w' hH hh' hrd=>?_
 rw [<- ha] at hpost
 exact (hpost k hs hH).out _ w' rfl hh' ⟨rfl,hf.size,hrd⟩
theorem ZNi {P:Program} {QR:Exit->Act->World->Prop} {P0:Nat->Prop} {B:Nat} {w0:World} {ds:List Deferred} {g:Operand} {p q id:Nat} {ty:TypeId} {ps:String} {af:Array Edge} {body:Code} {fr:List Dat} {gf:FuncId} {lb:List Value} {hk hp hs0:List HObj} {α:Type} {D:α->Dat} {xs:List α} (H:List α->List HObj->Prop) (F0:List Dat)
  (hg:OpD fr g (dX (.func (.func gf) #[] lb.toArray))) (he:ZAn P gf) {N:Nat} (hS:SeqN P gf lb hk D xs N) (h0:H [] hs0) (hF:FixF fr F0) (hpl:p<fr.length)
  (hbody:∀ (l:Nat) (pre:List α) (x:α) (hs q':List HObj),pre.length<N->H pre hs->WR P l (fun e _ q2=>e = .normal/\∃ hs',H (pre++[x]) hs'/\q2=hs'++q') body ((F0.set p (D x)).set q (D x)) (hs++q'))
  (hpost:∀ (k:Nat) (hs:List HObj),H xs hs->WK (QR .normal) P0 B w0 ({ target:=.collected k,args:=#[] }::ds) fr (ZAt k (.deferred (some []))::(hs++(hk++hp)))) :
  WY P QR P0 B w0 ds (.rangeFunc g #[p] (.region id #[⟨some q,.assign (.tmp p),ty,ps,af,none⟩] false) body) fr (hs0++(hk++hp)) :=
 WY.range H F0 (fun x=>(F0.set p (D x)).set q (D x)) hg he hS h0 hF (fun l x q'=>WR.region (ops:=[_]) rfl (I.WL.op rfl (SY.assign (OpD.t (by
  rw [List.getElem?_set]
  rw [if_pos rfl,if_pos (by rw [<- hF.out.1];exact hpl)]))) (I.WL.nil ⟨rfl,rfl,rfl⟩))) hbody hpost
def ZVF (k:Nat):Deferred:={ target:=.collected k,args:=#[] }
def ZO0 (k:Nat):HObj:=ZAt k (.deferred (some []))
theorem ZOt {F:Fence} {n:Nat} {P:Program} {fn:Func} {tmps:Array Value} {R:Ending->World->Prop} {P0:Nat->Prop} {B:Nat} {w0:World} {hp:List HObj} {u:FrameMode} (hu:u ≠ .run) :
  ∀ (ks:List Nat) (w:World),Hp P0 B w0 (ks.map ZO0++hp) w->(∀ w',Hp P0 B w0 hp w'->(∀ (d:Dat) (v:Value),d.rd (Imm P0 B (ks.map ZO0++hp)) w v->d.rd (Imm P0 B hp) w' v)->LeavesInM F n P fn tmps R [] u w')->LeavesInM F n P fn tmps R (ks.map ZVF) u w
 | [],w,hh,h=>h w hh fun _ _ hd=>hd
 | k::ks,w,hh,h=>by
  have hK:w.heap[k]?=some (.deferred (some [])):=hh.ok (ZO0 k) (by simp)
  refine ⟨hu,.inl ⟨k,_,rfl,run_takeDeferred hK,?_⟩⟩
  have hh2:Hp P0 B w0 (ZAt k (.deferred none)::(ks.map ZO0++hp)) _:=Hp.putObj (o':=.deferred none) hh
  exact ZOt hu ks _ hh2.drop fun w' hh' hd'=>h w' hh' fun d v hd=>hd' d v (d.weak (ZAg (o:=.deferred (some [])) (o':=.deferred none) hd) Imm.sub)
end
end Go.Proofs.YtekiljakcngcoaaGreatDoor
