/- Part 24: walks by contracts, and plain laws. -/
import Derived.Test.YtofkoleingbbpaaGreatDoorXa23
set_option linter.unusedVariables false
set_option linter.unusedSimpArgs false
set_option linter.unusedSectionVars false
set_option maxRecDepth 100000
set_option maxHeartbeats 64000000
namespace Go.Proofs.YtofkoleingbbpaaGreatDoor
section
open Go.RowKit
def actZ (a:Act):Act:={ tmps:=a.tmps,defers:=[] }
structure WK (K:Act->World->Prop) (P0:Nat->Prop) (B:Nat) (w0:World) (ds:List Deferred) (fr:List Dat) (hp:List HObj):Prop where
 of ::
 out:∀(a:Act) (w:World),a.defers=ds->Hp P0 B w0 hp w->Fr (Imm P0 B hp) w (actZ a) fr->K a w
abbrev WY (P:Program) (QR:Exit->Act->World->Prop) (P0:Nat->Prop) (B:Nat) (w0:World) (ds:List Deferred) (c:Code) (fr:List Dat) (hp:List HObj):Prop:=WK (c.wp P QR) P0 B w0 ds fr hp
abbrev WV (P:Program) (ops:Array Oper) (QR:Exit->Act->World->Prop) (P0:Nat->Prop) (B:Nat) (w0:World) (ds:List Deferred) (rest:List Oper) (fr:List Dat) (hp:List HObj):Prop:=WK (wpList P ops QR rest) P0 B w0 ds fr hp
section
variable {P:Program} {ops:Array Oper} {QR:Exit->Act->World->Prop} {K:Act->World->Prop} {P0:Nat->Prop} {B:Nat} {w0:World} {ds:List Deferred} {fr fr':List Dat} {hp hp':List HObj} {o:Oper} {rest:List Oper} {d:Dat} {x y:Code}
theorem WK.perm (h:hp.Perm hp') (k:WK K P0 B w0 ds fr hp'):WK K P0 B w0 ds fr hp:=WK.of fun a w ha hh hf =>
 let ⟨h1,h2⟩:=hh.perm h
 k.out a w ha h1 (hf.mono fun d _ hd=>d.weak hd fun k hk=>(h2 k).1 hk)
theorem WK.drop {ob:HObj} (k:WK K P0 B w0 ds fr hp):WK K P0 B w0 ds fr (ob::hp):=WK.of fun a w ha hh hf=>k.out a w ha hh.drop (hf.mono fun d _ hd=>d.weak hd Imm.sub)
theorem WV.op (hg:o.guard=none) (h:SY P ops hp o fr d) (k:WV P ops QR P0 B w0 ds rest (ZC fr o.dst d) hp):WV P ops QR P0 B w0 ds (o::rest) fr hp:=WK.of fun a w ha hh hf =>
 ZDe hg h hh hf fun a' w' ha' hh' hf'=>k.out a' w' (ha'.trans ha) hh' hf'
theorem WV.nil (k:WK (QR .normal) P0 B w0 ds fr hp):WV P ops QR P0 B w0 ds [] fr hp:=k
theorem WY.seq (h:WY P (Exit.then (y.wp P QR) QR) P0 B w0 ds x fr hp):WY P QR P0 B w0 ds (.seq x y) fr hp:=WK.of fun a w ha hh hf=>wp_seq (h.out a w ha hh hf)
theorem WY.exit {id:Nat} (h:WK (QR (.exit id)) P0 B w0 ds fr hp):WY P QR P0 B w0 ds (.exit id) fr hp:=WK.of fun a w ha hh hf=>wp_exit (h.out a w ha hh hf)
theorem WY.block {id:Nat} (h:WY P (Exit.inBlock id QR) P0 B w0 ds x fr hp):WY P QR P0 B w0 ds (.block id x) fr hp:=WK.of fun a w ha hh hf=>wp_block (h.out a w ha hh hf)
theorem ZCe (h:∀Kx:List Dat->List HObj->Prop,(∀f p,WY P QR P0 B w0 [] y f p->Kont Kx f p)->WC P (ThenD (Kont Kx) (fun _ _ _=>False)) x fr hp):WY P QR P0 B w0 [] (.seq x y) fr hp:=WK.of fun a w ha hh hf=>by
 have ha2:actZ a=a:=by cases a;cases ha;rfl
 rw[ha2] at hf;refine wp_seq (Code.wp_mono ?_ ((h (fun f p=>WY P QR P0 B w0 [] y f p) fun f p k=>⟨k⟩).on hh hf));rintro e a' w' ⟨f,p,q,hh',hf'⟩;cases e with
 | normal =>
  have hk:Kont (fun f p=>WY P QR P0 B w0 [] y f p) f p:=q;have ha3:actZ a'=a':=by
   have:=hf'.defers;cases a';cases this;rfl
  exact hk.out.out a' w' hf'.defers hh' (by rw[ha3];exact hf')
 | _=>exact(q:False).elim
theorem ZOS {id:Nat} (k:WK (QR .normal) P0 B w0 ds fr hp):WK (Exit.inBlock id QR .normal) P0 B w0 ds fr hp:=k
theorem ZRE (k:WK K P0 B w0 ds fr hp):WK (Exit.then K QR .normal) P0 B w0 ds fr hp:=k
end
theorem WY.range {P:Program} {QR:Exit->Act->World->Prop} {P0:Nat->Prop} {B:Nat} {w0:World} {ds:List Deferred} {g:Operand} {p:Tmp} {assign body:Code} {fr:List Dat} {gf:FuncId} {lb:List Value} {hk hp hs0:List HObj} {α:Type} {D:α->Dat} {xs:List α} (H:List α->List HObj->Prop) (F0:List Dat) (F1:α->List Dat)
  (hg:OpD fr g (dX (.func (.func gf) #[] lb.toArray))) (he:ZBR P gf) {N:Nat} (hS:SeqN P gf lb hk D xs N) (h0:H [] hs0) (hF:FixF fr F0)
  (hassign:∀(l:Nat) (x:α) (q:List HObj),WR P l (fun e f q'=>e = .normal/\q'=q/\f=F1 x) assign (F0.set p (D x)) q)
  (hbody:∀(l:Nat) (pre:List α) (x:α) (hs q:List HObj),pre.length<N->H pre hs->WR P l (fun e _ q'=>e = .normal/\∃hs',H (pre++[x]) hs'/\q'=hs'++q) body (F1 x) (hs++q))
  (hpost:∀(k:Nat) (hs:List HObj),H xs hs->WK (QR .normal) P0 B w0 ({ target:=.collected k,args:=#[] }::ds) fr (ZA2 k (.deferred (some []))::(hs++(hk++hp)))) :
  WY P QR P0 B w0 ds (.rangeFunc g #[p] assign body) fr (hs0++(hk++hp)):=WK.of fun a w ha hh hf=>by
 refine ZQm H F0 F1 hh hf hg he hS h0 hF hassign hbody fun k hs w' hH hh' hrd=>?_;rw[<- ha] at hpost;exact(hpost k hs hH).out _ w' rfl hh' ⟨rfl,hf.size,hrd⟩
theorem ZOj {P:Program} {QR:Exit->Act->World->Prop} {P0:Nat->Prop} {B:Nat} {w0:World} {ds:List Deferred} {g:Operand} {p q id:Nat} {ty:TypeId} {ps:String} {af:Array Edge} {body:Code} {fr:List Dat} {gf:FuncId} {lb:List Value} {hk hp hs0:List HObj} {α:Type} {D:α->Dat} {xs:List α} (H:List α->List HObj->Prop) (F0:List Dat)
  (hg:OpD fr g (dX (.func (.func gf) #[] lb.toArray))) (he:ZBR P gf) {N:Nat} (hS:SeqN P gf lb hk D xs N) (h0:H [] hs0) (hF:FixF fr F0) (hpl:p<fr.length)
  (hbody:∀(l:Nat) (pre:List α) (x:α) (hs q':List HObj),pre.length<N->H pre hs->WR P l (fun e _ q2=>e = .normal/\∃hs',H (pre++[x]) hs'/\q2=hs'++q') body ((F0.set p (D x)).set q (D x)) (hs++q'))
  (hpost:∀(k:Nat) (hs:List HObj),H xs hs->WK (QR .normal) P0 B w0 ({ target:=.collected k,args:=#[] }::ds) fr (ZA2 k (.deferred (some []))::(hs++(hk++hp)))) :
  WY P QR P0 B w0 ds (.rangeFunc g #[p] (.region id #[⟨some q,.assign (.tmp p),ty,ps,af,none⟩] false) body) fr (hs0++(hk++hp)) :=
 WY.range H F0 (fun x=>(F0.set p (D x)).set q (D x)) hg he hS h0 hF (fun l x q'=>WR.region (ops:=[_]) rfl (I.WL.op rfl (SY.assign (OpD.t (by
  rw[List.getElem?_set];rw[if_pos rfl,if_pos (by rw[<- hF.out.1];exact hpl)]))) (I.WL.nil ⟨rfl,rfl,rfl⟩))) hbody hpost
theorem SeqC.toN {P:Program} {gf:FuncId} {lb:List Value} {hk:List HObj} {α:Type} {D:α->Dat} {xs:List α} (h:SeqC P gf lb hk D xs):SeqN P gf lb hk D xs xs.length:=⟨h.out⟩
def markD (k:Nat):Deferred:={ target:=.collected k,args:=#[] }
def ZHg (k:Nat):HObj:=ZA2 k (.deferred (some []))
theorem ZPa {F:Fence} {n:Nat} {P:Program} {fn:Func} {tmps:Array Value} {R:Ending->World->Prop} {P0:Nat->Prop} {B:Nat} {w0:World} {hp:List HObj} {u:FrameMode} (hu:u ≠ .run) :
  ∀(ks:List Nat) (w:World),Hp P0 B w0 (ks.map ZHg++hp) w->(∀w',Hp P0 B w0 hp w'->(∀(d:Dat) (v:Value),d.rd (Imm P0 B (ks.map ZHg++hp)) w v->d.rd (Imm P0 B hp) w' v)->LeavesInM F n P fn tmps R [] u w')->LeavesInM F n P fn tmps R (ks.map markD) u w
 | [],w,hh,h=>h w hh fun _ _ hd=>hd
 | k::ks,w,hh,h=>by
  have hK:w.heap[k]?=some (.deferred (some [])):=hh.ok (ZHg k) (by simp);refine⟨hu,.inl ⟨k,_,rfl,run_takeDeferred hK,?_⟩⟩;have hh2:Hp P0 B w0 (ZA2 k (.deferred none)::(ks.map ZHg++hp)) _:=Hp.putObj (o':=.deferred none) hh;exact ZPa hu ks _ hh2.drop fun w' hh' hd'=>h w' hh' fun d v hd=>hd' d v (d.weak (ZAs (o:=.deferred (some [])) (o':=.deferred none) hd) Imm.sub)
end
section
open Go.RowKit
section
variable {P:Program} {ops:Array Oper} {md:Region.Mode} {fr fr':List Dat} {hp:List HObj} {C:List HObj->Prop}
inductive WRd (P:Program) (ops:Array Oper) (C:List HObj->Prop) (Q:List Dat->Prop):List Nat->List Dat->Prop
 | nil {fr:List Dat}:Q fr->WRd P ops C Q [] fr
 | read {i:Nat} {o:Oper} {r:List Nat} {fr:List Dat} {d:Dat}:ops[i]?=some o->(∀hp',C hp'->SYG P ops hp' o fr d)->WRd P ops C Q r (ZC fr o.dst d)->WRd P ops C Q (i::r) fr
structure W2 (P:Program) (ops:Array Oper) (C:List HObj->Prop) (R:List Dat->List HObj->Prop) (i j:Nat) (fr:List Dat) (hp:List HObj):Prop where
 out:∃oi oj,ops[i]?=some oi/\ops[j]?=some oj/\∃(β:Type) (H:β->List HObj) (D:β->Dat),SW P ops hp H D oi fr/\(∀x,C (H x))/\∀x,∃(γ:Type) (H2:γ->List HObj) (D2:γ->Dat),SW P ops (H x) H2 D2 oj (ZC fr oi.dst (D x))/\(∀y,C (H2 y))/\∀y,R (ZC (ZC fr oi.dst (D x)) oj.dst (D2 y)) (H2 y)
theorem W2.id {R:List Dat->List HObj->Prop} {i j:Nat} (h:W2 P ops C R i j fr hp):W2 P ops C R i j fr hp:=h
theorem WRd.id {Q:List Dat->Prop} {r:List Nat} (h:WRd P ops C Q r fr):WRd P ops C Q r fr:=h
theorem SW.alloc {dst:Option Tmp} {ty:TypeId} {ps:String} {af:Array Edge} {T:TypeId} {n:Nat} {agg:Bool} {z:Value} (hz:TyZ P T z) (hs:(dX z).Shape n agg) :
  SW P ops hp (fun b:Nat=>Zm b T n agg (dX z)::hp) (fun b=>dX (.pointer (some ⟨b,0,none⟩))) ⟨dst,.alloc T,ty,ps,af,none⟩ fr:=⟨rfl,fun {P0 B w0 w a} hh ho K Q hk=>by
 obtain⟨cs,k1,k0,k2,k3,k4⟩:=hs (fun _=>True) w z rfl;have hrun:(execOp a.eval ⟨dst,.alloc T,ty,ps,af,none⟩).run P w = .ok (.value (.pointer (some ⟨w.heap.size,0,none⟩))) (w.alloc (.cells cs.toArray T)):=by
  cases hq:P.info? T with
  | none=>have:=hz.out;simp[hq] at this
  | some i =>
   have hz':i.zero=some z:=by have:=hz.out;simpa[hq] using this
   unfold execOp;simp[Instr.alloc,zeroValue,typeInfo,hq,hz',newVar,newRow,k3]
 unfold Oper.wp;rw[hrun];have hx:=Ext.of_alloc w (.cells cs.toArray T);have hb:∀k,(Zm w.heap.size T n agg (dX z)).blk=some k->w.heap.size≤k/\k<(w.alloc (.cells cs.toArray T)).heap.size:=fun k hk=>by
  cases hk;exact⟨Nat.le_refl _,by simp⟩
 exact hk w.heap.size _ _ (hh.push hx hb ⟨cs,z,Zz w _,k1,k0,k2,k4,rfl⟩) (fun d u hd=>ZAJ hx (fun k hk=>(hb k hk).1) hd) rfl⟩
end
end
section
open Go.RowKit
section
variable {P:Program} {ops:Array Oper} {hp:List HObj} {fr:List Dat} {d:Dat} {dst:Option Tmp} {ty:TypeId} {ps:String} {af:Array Edge} {t e:TypeId} {n:Nat} {z:Value} {bytes:Nat} {ag:Bool}
theorem ZGb {x:Operand} {t b n:Nat} {T T2:TypeId} {agg:Bool} {d0:Dat} (hT:TyI P T n agg) (hp0:OpD fr (.tmp t) (dX (.pointer (some ⟨b,0,none⟩)))) (hx:OpD fr x d) (hs:d.Shape n agg) :
  SW P ops (Zm b T2 n agg d0::hp) (fun _:Unit=>Zm b T2 n agg d::hp) (fun _=>dX undef) ⟨none,.store T (.tmp t) x,ty,ps,af,none⟩ fr:=⟨rfl,fun {P0 B w0 w a} hh ho K Q hk=>by
 obtain⟨cs,u,c1,c2,c0,c3,c4,c5⟩:=hh.ok (Zm b T2 n agg d0) (by simp);have h1:d.rd (Imm P0 B (Zm b T2 n agg d0::hp)) w (a.eval x):=hx.get (by simp[Op.operands]) ho;obtain⟨cs',k1,k0,k2,k3,k4⟩:=hs _ _ _ h1;have h2:a.eval (.tmp t) = .pointer (some ⟨b,0,none⟩):=hp0.get (by simp[Op.operands]) ho;have hr:=ZDG (u:=a.eval x) hT.size c1 c2 k1 k2 k3;have hrun:(execOp a.eval ⟨none,.store T (.tmp t) x,ty,ps,af,none⟩).run P w = .ok .skip (w.setRow b cs'.toArray):=by
  unfold execOp;simp only[h2,Sem.run_bind,hr,Result.andThen_ok,Sem.run_pure]
 unfold Oper.wp;rw[hrun];have hgr:w.grownBy (w.setRow b cs'.toArray) (Zm b T2 n agg d0).blk:=ZAM;have hok:(Zm b T2 n agg d).ok (fun k=>Imm P0 B (Zm b T2 n agg d0::hp) k/\k<w.heap.size) (w.setRow b cs'.toArray) :=
  ⟨cs',a.eval x,setRow_heap w b _ _ _ _ c1,k1,k0,k2,k4,d.grown (d.bound h1) hgr (fun k hk hc=>hc.1.2 _ (by simp) hk)⟩
 exact hk () undef _ (hh.write hgr (.inl rfl) hok) (fun d' u hd=>Ze (o':=Zm b T2 n agg d) hgr (.inl rfl) hd) rfl⟩
theorem ZM0 {Q:Z5} {c:Code} {t b n:Nat} {T:TypeId} {agg:Bool} (hp0:fr[t]?=some (dX (.pointer (some ⟨b,0,none⟩)))) (h:WC P Q c (fr.set t (dP n agg d)) hp):WC P Q c fr (Zm b T n agg d::hp):=by
 refine WC.of fun P0 B w0 w a hh hf=>?_;obtain⟨cs,u,c1,c2,c0,c3,c4,c5⟩:=hh.ok (Zm b T n agg d) (by simp);have hown:=hh.own (Zm b T n agg d) (by simp) b rfl;refine h.on hh.drop ⟨hf.defers,by rw[hf.size,List.length_set],fun t' d' hd'=>?_⟩;by_cases htt:t=t'
 ·subst htt;rw[List.getElem?_set] at hd';simp only[if_true] at hd';split at hd'
  ·cases hd';have hv:a.tmps.getD t undef = .pointer (some ⟨b,0,none⟩):=hf.rd t _ hp0;rw[hv];refine⟨b,0,u,rfl,ZA6 c1 c2 c0 c3 c4 ⟨.inr hown.1,fun o' ho' hk=>?_⟩,d.weak c5 Imm.sub⟩;exact(List.pairwise_cons.1 hh.apart).1 o' ho' b rfl hk
  ·cases hd'
 ·rw[List.getElem?_set_ne htt] at hd';exact d'.weak (hf.rd t' d' hd') Imm.sub
end
end
section
open Go.RowKit
section
variable {P:Program} {ops:Array Oper} {hp:List HObj} {fr:List Dat} {d e:Dat} {dst:Option Tmp} {ty:TypeId} {ps:String} {af:Array Edge} {g:Option (Nat × Bool)} {T T1 T2:TypeId} {x y:Operand}
theorem ZBA {l:Cx} (T':TyI P T1 1 true) (hx:OpD fr x (dP 1 false (dS Zh l))):SY P ops hp ⟨dst,.load T1 x,ty,ps,af,g⟩ fr (dS Cpx l):=SY.val fun {I w a} ho=>by
 obtain⟨b,off,u,h1,⟨hb,cs,k1,k0,k2,k3,k4⟩,hu⟩:=hx.get (by simp[Op.operands]) ho;simp only[Bool.false_eq_true,if_false] at k4;subst k4;have hc:Cells I w b off 1 true (.agg #[u]):=⟨hb,[u],rfl,Nat.one_pos,k2,k3,rfl⟩;refine⟨.agg #[u],?_,u,rfl,k2 u (by simp),hu⟩;unfold execOp;simp only[h1,Sem.run_bind,ZA8 T' hc,Result.andThen_ok,Sem.run_pure]
theorem ZN8 {n:Nat} (S:StrT P T n) (hn:0<n) (hx:OpD fr x (dP 1 false d)):SY P ops hp ⟨dst,.fieldAddr T x 0,ty,ps,af,g⟩ fr (dP 1 false d):=SY.val fun {I w a} ho=>by
 obtain⟨b,off,u,h1,h2,h3⟩:=hx.get (by simp[Op.operands]) ho;refine⟨.pointer (some ⟨b,off,none⟩),?_,b,off,u,rfl,h2,h3⟩;unfold execOp;simp only[h1,Sem.run_bind,S.fld b off 0 w hn,Result.andThen_ok,Sem.run_pure];rfl
end
theorem strCx:StrT Tryz.prog 29 1:=⟨fun b off i w hi=>by
 have:i=0:=by omega
 subst this
 go_simp⟩
end
section
open Go.RowKit

abbrev ZHa (l:Cx) (f:Vx->Int):Dat:=ZEP [dS Zh l,ZNJ f]
theorem ZHP:StrT Tryz.prog 93 2:=⟨fun b off i w hi=>by
 match i,hi with
 | 0,_=>go_simp
 | 1,_=>go_simp⟩
theorem ZBx:TyI Tryz.prog 93 2 true:=⟨by kernel_rfl,Tryz.isAgg93⟩
def ZHh (f:Vx->Int) (k:Int) (v:Vx):Bool:=!decide (ZQs (f v) (k+1)=0)
def ZAi (f:Vx->Int) (k:Int) (s:List Vx):Bool:=!(s.any (ZHh f k))
def ZF6 (f:Vx->Int) (a:Int) (s:List Vx):Bool:=decide (ZQr (orL f s) a=a)
theorem ZR6 (l:Cx) (f:Vx->Int) (k:Int) (hk:0≤k/\k≤1000) (v:Vx):Fn Tryz.prog 100 ([dS RV v]++[dP 2 true (ZHa l f),dP 1 false (dI k)]) (dB (ZHh f k v)):=by
 show Fn Tryz.prog 100 [dS RV v,dP 2 true (ZHa l f),dP 1 false (dI k)] _;have hk1:0≤k+1:=by omega
 (refine ZE Tryz.func100 rfl rfl ?_;simp only[Tryz.ntmps100,List.length_cons,List.length_nil,Nat.reduceAdd,Nat.reduceSub,List.replicate_succ,List.replicate_zero,List.cons_append,List.nil_append])
 ((repeat' (first|((first|apply WL.opN|apply WD.opN);exact yF;dsimp only[ZC,z0,z1])|refine WL.nil ?_|refine WD.nil ?_|refine ZA fun Kx hK=>?_|(refine hK _ _ ?_;clear hK)|refine WC.region ?_|(apply WC.draw;kernel_rfl;kernel_rfl)|((first|apply WL.opN|apply WD.opN);(focus ((first|(refine ZV ZHP (OpD.t rfl) (Dat.le_refl _) rfl rfl)|(apply SY.load;exact tyFi;exact OpD.t rfl)|(apply ZBJ (x:=v);(exact OpD.t rfl);(exact aD))|(exact SY.shr (OpD.t rfl) (OpD.t rfl) hk1)|((first|apply SY.assign|apply SY.neq) <;> (exact oD))|((first|apply SY.add) <;> first|exact oD|omega)|(apply SY.box;(exact oD);(exact hD))|fail);all_goals infer_instance));dsimp only[ZC,z0,z1])|refine WC.ret ?_));all_goals (first|((repeat clear hK);(repeat clear Kx))))
 all_goals try (exfalso;first|contradiction|omega)
 (refine⟨trivial,_,rfl,?_⟩;exact fD)
theorem ZUC (l:Cx) (f:Vx->Int) (k:Int) (hk:0≤k/\k≤1000) (s:List Vx):Fn Tryz.prog 99 ([dS ZM s]++[dP 2 true (ZHa l f),dP 1 false (dI k)]) (dB (ZAi f k s)):=by
 show Fn Tryz.prog 99 [dS ZM s,dP 2 true (ZHa l f),dP 1 false (dI k)] _;(refine ZE Tryz.func99 rfl rfl ?_;simp only[Tryz.ntmps99,List.length_cons,List.length_nil,Nat.reduceAdd,Nat.reduceSub,List.replicate_succ,List.replicate_zero,List.cons_append,List.nil_append])
 ((repeat' (first|(apply WL.opN;exact yF;dsimp only[ZC,z0,z1])|refine WL.nil ?_|refine ZA fun Kx hK=>?_|(refine hK _ _ ?_;clear hK)|refine WC.region ?_|(apply WL.opN;(focus ((first|(apply ZBj (A:=fun v:Vx=>[dS RV v]) (r:=fun v=>dB (ZHh f k v)) Tryz.call100 (fun v=>ZR6 l f k hk v) (fun _=>ZHs);(exact aD))|(apply SY.call (ZSq _ (ZHh f k)) Tryz.call83;(exact aD))|((first|apply SY.move|apply SY.assign|apply SY.not) <;> (exact oD))|fail);all_goals infer_instance));dsimp only[ZC,z0,z1])|refine WC.ret ?_));all_goals (first|((repeat clear hK);(repeat clear Kx))))
 all_goals try (exfalso;first|contradiction|omega)
 (refine⟨trivial,_,rfl,?_⟩;exact fD)
abbrev dOk (q:List Vx->Bool):Dat:=ZK7 Tryz.prog (fun s:List Vx=>[dS ZM s]) (fun s=>dB (q s))
theorem ZKZ (l:Cx) (f:Vx->Int) (k:Int) (hk:0≤k/\k≤1000):Fn Tryz.prog 60 [ZHa l f,dI k] (dOk (ZAi f k)):=by
 (refine ZE Tryz.func60 rfl rfl ?_;simp only[Tryz.ntmps60,List.length_cons,List.length_nil,Nat.reduceAdd,Nat.reduceSub,List.replicate_succ,List.replicate_zero,List.cons_append,List.nil_append])
 ((repeat' (first|(apply WL.opN;exact yF;dsimp only[ZC,z0,z1])|refine WL.nil ?_|refine ZA fun Kx hK=>?_|(refine hK _ _ ?_;clear hK)|refine WC.region ?_|(apply WL.opN;(focus ((first|(exact SY.box (OpD.t rfl) (ZAD (n:=2) (by decide) rfl))|(apply ZBj (A:=fun s:List Vx=>[dS ZM s]) (r:=fun s=>dB (ZAi f k s)) Tryz.call99 (fun s=>ZUC l f k hk s) (fun _=>ZHs);(exact aD))|(apply SY.box;(exact oD);(exact hD))|fail);all_goals infer_instance));dsimp only[ZC,z0,z1])|refine WC.ret ?_));all_goals (first|((repeat clear hK);(repeat clear Kx))))
 all_goals try (exfalso;first|contradiction|omega)
 (refine⟨trivial,_,rfl,?_⟩;exact fD)
theorem ZU0 (l:Cx) (f:Vx->Int) (a:Int) (s:List Vx):Fn Tryz.prog 115 ([dS ZM s]++[dP 2 true (ZHa l f),dP 1 false (dI a)]) (dB (ZF6 f a s)):=by
 show Fn Tryz.prog 115 [dS ZM s,dP 2 true (ZHa l f),dP 1 false (dI a)] _;(refine ZE Tryz.func115 rfl rfl ?_;simp only[Tryz.ntmps115,List.length_cons,List.length_nil,Nat.reduceAdd,Nat.reduceSub,List.replicate_succ,List.replicate_zero,List.cons_append,List.nil_append])
 ((repeat' (first|((first|apply WL.opN|apply WD.opN);exact yF;dsimp only[ZC,z0,z1])|refine WL.nil ?_|refine WD.nil ?_|refine ZA fun Kx hK=>?_|(refine hK _ _ ?_;clear hK)|refine WC.region ?_|(apply WC.draw;kernel_rfl;kernel_rfl)|((first|apply WL.opN|apply WD.opN);(focus ((first|(refine ZV ZHP (OpD.t rfl) (Dat.le_refl _) rfl rfl)|(apply SY.load;exact tyFi;exact OpD.t rfl)|(apply SY.call (ZFq s f) Tryz.call45;(exact aD))|((first|apply SY.move|apply SY.assign|apply SY.eql|apply SY.and) <;> (exact oD))|fail);all_goals infer_instance));dsimp only[ZC,z0,z1])|refine WC.ret ?_));all_goals (first|((repeat clear hK);(repeat clear Kx))))
 all_goals try (exfalso;first|contradiction|omega)
 (refine⟨trivial,_,rfl,?_⟩;exact fD)
theorem two9:∀k:Fin 9,ZRs 1 (k.val:Int)=((2 ^ k.val:Nat):Int):=by decide +kernel
theorem pow9:∀k:Fin 9,2 ^ k.val≤256:=by decide +kernel
theorem ZLI {P:Program} {ops:Array Oper} {hp:List HObj} {fr:List Dat} {dst:Option Tmp} {ty:TypeId} {ps:String} {af:Array Edge} {g:Option (Nat × Bool)} {x y:Operand} {T T2:TypeId} {k:Nat} (hk:k≤8) (hx:OpD fr x (dI 1)) (hy:OpD fr y (dI (k:Int))) :
  SY P ops hp ⟨dst,.binOp .shl T x y T2,ty,ps,af,g⟩ fr (dI ((2 ^ k:Nat):Int)):=two9 ⟨k,by omega⟩ ▸ SY.shl hx hy (by simp only;omega)
theorem ZVZ:TyZ Tryz.prog 3 (.int .i64 0):=⟨by kernel_rfl⟩
theorem ZJ3 (l:Cx) (f:Vx->Int) (k:Nat) (hk:k≤8):Fn Tryz.prog 70 [ZHa l f,dI (k:Int)] (dOk (ZF6 f (((2 ^ k:Nat):Int)-1))):=by
 have hp:=pow9 ⟨k,by omega⟩;simp only at hp;generalize hN:2 ^ k=N at hp;(refine ZE Tryz.func70 rfl rfl ?_;simp only[Tryz.ntmps70,List.length_cons,List.length_nil,Nat.reduceAdd,Nat.reduceSub,List.replicate_succ,List.replicate_zero,List.cons_append,List.nil_append])
 ((repeat' (first|(apply WL.opN;exact yF;dsimp only[ZC,z0,z1])|refine WL.nil ?_|refine ZA fun Kx hK=>?_|(refine hK _ _ ?_;clear hK)|refine WC.region ?_ |  (refine WL.alloc ZVZ (Zw rfl) fun b5=>?_;dsimp only[ZC,z0,z1]) |  (refine ZP tyI rfl (OpD.t rfl) ZAT ?_;dsimp only[ZC,z0,z1])|(apply WL.opN;(focus ((first|(exact SY.box (OpD.t rfl) (ZAD (n:=2) (by decide) rfl))|(refine hN ▸ ZLI hk OpD.i (OpD.t rfl))|(apply ZBj (A:=fun s:List Vx=>[dS ZM s]) (r:=fun s=>dB (ZF6 f ((N:Int)-1) s)) Tryz.call115 (fun s=>ZU0 l f ((N:Int)-1) s) (fun _=>ZHs);(exact aD))|((first|apply SY.sub) <;> first|exact oD|omega)|fail);all_goals infer_instance));dsimp only[ZC,z0,z1])|refine WC.ret ?_));all_goals (first|((repeat clear hK);(repeat clear Kx))))
 all_goals try (exfalso;first|contradiction|omega)
 (refine⟨trivial,_,rfl,?_⟩;exact fD)
theorem ZSu {α:Type} {l:List α} {q:α->Bool} {k:Nat} (h:k<l.length):(l.take (k+1)).filter q=(l.take k).filter q++(if q l[k]=true then[l[k]] else[]):=by
 rw[List.take_succ_eq_append_getElem h,List.filter_append];congr 1;by_cases hq:q l[k]=true
 ·rw[if_pos hq,List.filter_cons_of_pos hq];rfl
 ·rw[if_neg hq,List.filter_cons_of_neg hq];rfl
def ZCk (l:Cx) (k:Int) (q:List Vx->Bool):List (List Vx):=if k>8 then[] else(ZCR l k).1.filter q
theorem ZJG (l:Cx) (f:Vx->Int) (k:Int) (q:List Vx->Bool) (hl:k≤8->(ZCR l k).1.length≤1000000):Fn Tryz.prog 59 [ZHa l f,dI k,dOk q] (dS Zh (ZCk l k q)):=by
 unfold ZCk;(refine ZE Tryz.func59 rfl rfl ?_;simp only[Tryz.ntmps59,List.length_cons,List.length_nil,Nat.reduceAdd,Nat.reduceSub,List.replicate_succ,List.replicate_zero,List.cons_append,List.nil_append])
 by_cases hk:k>8
 ·rw[if_pos hk];((repeat' (first|(apply WL.opN;exact yF;dsimp only[ZC,z0,z1])|refine WL.nil ?_|refine ZA fun Kx hK=>?_|(refine hK _ _ ?_;clear hK)|refine WC.region ?_|(apply WL.opN;(focus ((first|(exact SY.box (OpD.t rfl) (ZAD (n:=2) (by decide) rfl))|((first|apply SY.move|apply SY.assign|apply SY.lss|apply SY.gtr) <;> (exact oD))|fail);all_goals infer_instance));dsimp only[ZC,z0,z1])|(apply ZB;(exact oD);all_goals (intro h;try exact xD))|refine WC.ret ?_|refine ThenD.r ?_));all_goals (first|((repeat clear hK);(repeat clear Kx))))
  all_goals try (exfalso;first|contradiction|omega)
  (refine⟨trivial,_,rfl,?_⟩;exact fD)
 ·rw[if_neg hk];have hS:=ZJH l k;have hL:=hl (by omega);generalize (ZCR l k).1=L at hS hL;generalize (ZCR l k).2=e at hS;refine Zq 22 ZM ?_;(repeat' (first|(apply WL.opN;exact yF;dsimp only[ZC,z0,z1])|refine WL.nil ?_|refine ZA fun Kx hK=>?_|(refine hK _ _ ?_;clear hK)|refine WC.region ?_|(apply WL.opN;(focus ((first|(exact SY.box (OpD.t rfl) (ZAD (n:=2) (by decide) rfl))|(refine ZV ZHP (OpD.t rfl) (Dat.le_refl _) rfl rfl)|(exact ZBA tyC (OpD.t rfl))|(apply SY.call (hS) Tryz.call98;(exact aD))|((first|apply SY.move|apply SY.assign|apply SY.lss|apply SY.gtr) <;> (exact oD))|(apply SY.len;(exact oD);(exact nD);(exact uD))|(apply SY.extract;(exact oD);rfl)|fail);all_goals infer_instance));dsimp only[ZC,z0,z1])|(apply ZB;(exact oD);all_goals (intro h;try exact xD))|refine WC.skip ?_|refine WC.block ?_))
  all_goals try (exfalso;first|contradiction|omega)
  (refine WC.loopU (X:=Nat × Value) (fun x=>[(23,dI (x.1:Int)),(9,dX x.2),(11,dA),(24,dA),(25,dA),(26,dA),(27,dA),(28,dA),(29,dA),(30,dA),(31,dA),(32,dA),(33,dA),(34,dA)]) (fun x=>([Zk x.2 22 ZM ((L.take x.1).filter q)])) (fun x=>L.length-x.1) (fun x=>x.1≤L.length) (0,.slice none 0 0) ?start ?frame0 ?objs0 ?round)
  case start=>exact Nat.zero_le _
  case frame0=>exact zFr
  case objs0=>rfl
  case round =>
   rintro⟨j,v⟩ h1;simp only at h1;dsimp only[ZL,z0,z1];by_cases hj:j<L.length
   ·have hjI:(j:Int)<(L.length:Int):=by omega
    have hsn:=ZSu (q:=q) hj;have hfl:((L.take j).filter q).length≤1000000:=by
     have:=List.length_filter_le q (L.take j);rw[List.length_take] at this;omega
    have h24:(((L.take j).filter q).length+1)*24≤140737488355328:=by omega
    by_cases hq:q L[j]=true
    ·rw[if_pos hq] at hsn;((repeat' (first|(apply WL.opN;exact yF;dsimp only[ZC,z0,z1])|refine WL.nil ?_|refine ZA fun Kx hK=>?_|(refine hK _ _ ?_;clear hK)|refine WC.region ?_|((first|apply Zs|apply Zl);(exact eD);exact OpD.t rfl;(exact oD);(intro _;exact hD);(exact(by simp));(exact(by simp));(first|exact⟨by decide,by decide⟩|skip);decide;(exact lD);(intro _;dsimp only[ZC,z0,z1]);all_goals (try infer_instance))|(apply WL.opN;(focus ((first|(apply ZBJ (x:=L[j]);(exact OpD.t rfl);(exact aD))|((first|apply SY.move|apply SY.assign|apply SY.lss|apply SY.gtr) <;> (exact oD))|((first|apply SY.add) <;> first|exact oD|omega)|(apply SY.ix;(exact eD);(exact oD);(exact oD);exact kD)|fail);all_goals infer_instance));dsimp only[ZC,z0,z1])|(apply ZB;(exact oD);all_goals (intro h;try exact xD))|(apply WC.cond;(exact oD);all_goals (intro h;try exact xD))|refine WC.skip ?_|refine WC.block ?_|refine ThenD.n ?_));all_goals (first|((repeat clear hK);(repeat clear Kx))))
     all_goals try (exfalso;first|contradiction|omega|(simp[hq] at h;done))
     rw[<- hsn];(refine zNx (j+1,_) ?_;(try dsimp only))
     exact hj
    ·rw[if_neg hq,List.append_nil] at hsn;((repeat' (first|(apply WL.opN;exact yF;dsimp only[ZC,z0,z1])|refine WL.nil ?_|refine ZA fun Kx hK=>?_|(refine hK _ _ ?_;clear hK)|refine WC.region ?_|(apply WL.opN;(focus ((first|(apply ZBJ (x:=L[j]);(exact OpD.t rfl);(exact aD))|((first|apply SY.move|apply SY.assign|apply SY.lss|apply SY.gtr) <;> (exact oD))|((first|apply SY.add) <;> first|exact oD|omega)|(apply SY.ix;(exact eD);(exact oD);(exact oD);exact kD)|fail);all_goals infer_instance));dsimp only[ZC,z0,z1])|(apply ZB;(exact oD);all_goals (intro h;try exact xD))|(apply WC.cond;(exact oD);all_goals (intro h;try exact xD))|refine WC.skip ?_|refine WC.block ?_|refine ThenD.n ?_));all_goals (first|((repeat clear hK);(repeat clear Kx))))
     all_goals try (exfalso;first|contradiction|omega|(simp[hq] at h;done))
     rw[<- hsn];(refine zNx (j+1,v) ?_;(try dsimp only))
     exact hj
   ·have hjI:¬ (j:Int)<(L.length:Int):=by omega
    obtain rfl:j=L.length:=by omega
    rw[List.take_length];((repeat' (first|(apply WL.opN;exact yF;dsimp only[ZC,z0,z1])|refine WL.nil ?_|refine ZA fun Kx hK=>?_|(refine hK _ _ ?_;clear hK)|(refine Kont.skip ?_;clear hK)|refine WC.region ?_|(apply WL.opN;(focus ((first|((first|apply SY.move|apply SY.assign|apply SY.lss|apply SY.gtr) <;> (exact oD))|fail);all_goals infer_instance));dsimp only[ZC,z0,z1])|(apply ZB;(exact oD);all_goals (intro h;try exact xD))|refine WC.ret ?_|refine WC.exit ?_));all_goals (first|((repeat clear hK);(repeat clear Kx))))
    all_goals try (exfalso;first|contradiction|omega)
    (refine⟨trivial,_,rfl,?_⟩;exact fD)
end
end Go.Proofs.YtofkoleingbbpaaGreatDoor
