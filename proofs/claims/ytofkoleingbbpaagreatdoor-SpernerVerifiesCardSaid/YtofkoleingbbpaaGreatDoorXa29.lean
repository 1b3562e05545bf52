/- Part 29: walks by contracts, and plain laws. -/
import Derived.Shelf.Strconv.AppendIntPublic10
import Derived.Test.YtofkoleingbbpaaGreatDoorXa24
import Derived.Test.YtofkoleingbbpaaGreatDoorXa26
import Derived.Test.YtofkoleingbbpaaGreatDoorXa28
set_option linter.unusedVariables false
set_option linter.unusedSimpArgs false
set_option linter.unusedSectionVars false
set_option maxRecDepth 100000
set_option maxHeartbeats 64000000
namespace Go.Proofs.YtofkoleingbbpaaGreatDoor
section
open Go.RowKit
theorem ZDj:ElT Tryz.prog 103 23 1 (.slice none 0 0) 24 false:=⟨Tryz.underlying103,by kernel_rfl,Tryz.isAgg23,rfl⟩
theorem ZPI:ElT Tryz.prog 151 155 2 (.agg #[.slice none 0 0,.slice none 0 0]) 48 true:=⟨Tryz.underlying151,by kernel_rfl,Tryz.isAgg155,rfl⟩
theorem ZLA:TyI Tryz.prog 23 1 false:=⟨by kernel_rfl,Tryz.isAgg23⟩
theorem ZKx:TyI Tryz.prog 103 1 false:=⟨by kernel_rfl,Tryz.isAgg103⟩
theorem ZLp:TyI Tryz.prog 155 2 true:=⟨by kernel_rfl,Tryz.isAgg155⟩
theorem ZQu:TyI Tryz.prog 184 1 false:=⟨by kernel_rfl,Tryz.isAgg184⟩
theorem ZHn:TyI Tryz.prog 105 2 true:=⟨by kernel_rfl,Tryz.isAgg105⟩
theorem ZQb:TyZ Tryz.prog 155 (.agg #[.slice none 0 0,.slice none 0 0]):=⟨by kernel_rfl⟩
theorem tzQ3:TyZ Tryz.prog 184 (.map none):=⟨by kernel_rfl⟩
theorem ZN0:TyZ Tryz.prog 105 (.agg #[.int .i64 0,.slice none 0 0]):=⟨by kernel_rfl⟩
def ZC8 (n:Int):Prop:=-9223372036854775808≤n/\n≤9223372036854775807
theorem wf64Q {n:Int} (h:ZC8 n):(Lit.int .i64 n).wf=true:=by
 obtain⟨h1,h2⟩:=h;show(decide (IntKind.i64.min≤n) && decide (n≤IntKind.i64.max))=true;have e1:IntKind.i64.min = -9223372036854775808:=by decide
 have e2:IntKind.i64.max=9223372036854775807:=by decide
 rw[e1,e2,decide_eq_true h1,decide_eq_true h2];rfl
abbrev kvQ:Int->Value:=fun n=>Value.int .i64 n
theorem ZE2:KeyT Tryz.prog 3 kvQ ZC8 where
 law:=Go.Maps.int_keyed Tryz.underlying3
 lit:=fun n h=>⟨_,Go.Maps.keyOf_int_mk Tryz.underlying3 (wf64Q h)⟩
 inj:=fun x y _ _ h=>by injection h
theorem ZHF:MapT Tryz.prog 184 3 155 (.agg #[.slice none 0 0,.slice none 0 0]):=⟨Tryz.underlying184,fun w=>by kernel_rfl⟩
abbrev Mat:Rel (Int × List (List Int)):=R2 RI (Arr ZAR)
abbrev LnR:Rel (List Int × List Int):=R2 ZAR ZAR
theorem lnT:ColT Tryz.prog 155:=by
 constructor
 ·intro b off w;go_simp
 ·intro b off w;go_simp
 ·intro a n c a' n' c' w;go_simp
structure FldT (P:Program) (T:TypeId):Prop where
 fld0:∀b off w,(Instr.fieldAt T (.pointer (some ⟨b,off,none⟩)) 0).run P w = .ok (.pointer (some ⟨b,off+0,none⟩)) w
 fld1:∀b off w,(Instr.fieldAt T (.pointer (some ⟨b,off,none⟩)) 1).run P w = .ok (.pointer (some ⟨b,off+1,none⟩)) w
theorem ZEk:FldT Tryz.prog 105:=by
 constructor
 ·intro b off w;go_simp
 ·intro b off w;go_simp
theorem ZJJ:StrT Tryz.prog 105 2:=⟨fun b off i w hi=>by
 match i,hi with
 | 0,_=>go_simp
 | 1,_=>go_simp⟩
section
variable {P:Program} {ops:Array Oper} {hp:List HObj} {fr:List Dat} {d:Dat} {Q:Z5} {rest:List Oper}
variable {dst:Option Tmp} {ty:TypeId} {ps:String} {af:Array Edge} {g:Option (Nat × Bool)} {T:TypeId}
theorem ZAA (V:FldT P T) {α β:Type} {R:Rel α} {S:Rel β} {_gR:Good R} {_gS:Good S} {x:Operand} {p:α × β} (hx:OpD fr x (dP 2 true (dS (R2 R S) p))):SY P ops hp ⟨dst,.fieldAddr T x 0,ty,ps,af,g⟩ fr (dP 1 false (dS R p.1)):=SY.val fun {I w a} ho=>by
 obtain⟨b,off,u,h1,⟨hb,cs,k1,k0,k2,k3,k4⟩,v0,v1,hu,q0,q1,q2,q3⟩:=hx.get (by simp[Op.operands]) ho;simp only[if_true] at k4;rw[k4] at hu;have hcs:cs=[v0,v1]:=by injection hu with hu;exact List.toArray_inj hu
 subst hcs;refine⟨_,?_,b,off+0,v0,rfl,⟨hb,[v0],rfl,Nat.one_pos,by simp[q0],fun j c hc=>?_,rfl⟩,q2⟩
 ·unfold execOp;simp only[h1,Sem.run_bind,V.fld0,Result.andThen_ok,Sem.run_pure]
 ·have hj:j=0:=by have:=(List.getElem?_eq_some_iff.1 hc).1;simpa using this
  subst hj;cases hc;exact k3 0 _ rfl
theorem ZAB (V:FldT P T) {α β:Type} {R:Rel α} {S:Rel β} {_gR:Good R} {_gS:Good S} {x:Operand} {p:α × β} (hx:OpD fr x (dP 2 true (dS (R2 R S) p))):SY P ops hp ⟨dst,.fieldAddr T x 1,ty,ps,af,g⟩ fr (dP 1 false (dS S p.2)):=SY.val fun {I w a} ho=>by
 obtain⟨b,off,u,h1,⟨hb,cs,k1,k0,k2,k3,k4⟩,v0,v1,hu,q0,q1,q2,q3⟩:=hx.get (by simp[Op.operands]) ho;simp only[if_true] at k4;rw[k4] at hu;have hcs:cs=[v0,v1]:=by injection hu with hu;exact List.toArray_inj hu
 subst hcs;refine⟨_,?_,b,off+1,v1,rfl,⟨hb,[v1],rfl,Nat.one_pos,by simp[q1],fun j c hc=>?_,rfl⟩,q3⟩
 ·unfold execOp;simp only[h1,Sem.run_bind,V.fld1,Result.andThen_ok,Sem.run_pure]
 ·have hj:j=0:=by have:=(List.getElem?_eq_some_iff.1 hc).1;simpa using this
  subst hj;cases hc;exact k3 1 _ rfl
theorem ZOH (V:ColT P T) {α β:Type} {R:Rel α} {S:Rel β} {_gR:Good R} {_gS:Good S} {x y:Operand} {xs:List α} {ys:List β} (hx:OpD fr x (dS (Arr R) xs)) (hy:OpD fr y (dS (Arr S) ys)):SY P ops hp ⟨dst,.build T #[(0,x),(1,y)],ty,ps,af,g⟩ fr (dS (R2 (Arr R) (Arr S)) (xs,ys)):=SY.val fun {I w a} ho=>by
 have h1:Arr R I w (a.eval x) xs:=hx.get (by simp[Op.operands]) ho;have h2:Arr S I w (a.eval y) ys:=hy.get (by simp[Op.operands]) ho;have h1':=h1;have h2':=h2;obtain⟨ad,c,hv,_⟩:=h1';obtain⟨ad',c',hv',_⟩:=h2';rw[hv] at h1;rw[hv'] at h2;refine⟨.agg #[.slice ad xs.length c,.slice ad' ys.length c'],?_,_,_,rfl,rfl,rfl,h1,h2⟩;unfold execOp;simp only[List.map_toArray,List.map_cons,List.map_nil,hv,hv',Sem.run_bind,V.mkp,Result.andThen_ok,Sem.run_pure]
theorem Zg {x i:Operand} {t e:TypeId} {z:Value} {bytes:Nat} (E:ElT P t e 1 z bytes false) {α:Type} {R:Rel α} {_gR:Good R} {xs:List α} {k:Nat} {v:α} (hk:k<xs.length) (hv:xs[k]=v) (hx:OpD fr x (dS (Arr R) xs)) (hi:OpD fr i (dI (k:Int))) :
  SY P ops hp ⟨dst,.indexAddr t x i,ty,ps,af,g⟩ fr (dP 1 false (dS R v)):=hv ▸ SY.ix E hx hi hk
theorem ZGg {x y:Operand} {t e:TypeId} {z:Value} {bytes:Nat} {ag:Bool} (E:ElT P t e 1 z bytes ag) {α:Type} {R:Rel α} {_gR:Good R} {a:α} {xs:List α} (hx:OpD fr x (dS (Arr R) (a::xs))) (hy:OpD fr y (dI 1)) :
  SY P ops hp ⟨dst,.slice t x (some y) none none,ty,ps,af,g⟩ fr (dS (Arr R) xs):=ZQ3 (_gR:=_gR) (xs:=a::xs) E hx hy 1 rfl (by simp)
theorem ZRK {α:Type} {R:Rel α} {_gR:Good R} {t e:TypeId} {bytes:Nat} {z:Value} {ag:Bool} {k:Nat} {j:Int} {y:Operand} (E:ElT P t e 1 z bytes ag) (hy:OpD fr y (dI j)) (hj:j=(k:Int)) (hb:bytes*k≤281474976710656) (hm:k≤maxLen) (h:∀v,WL P ops Q rest (ZC fr dst (dX v)) (Zk v e R []::hp)) :
  WL P ops Q (⟨dst,.makeSlice t (.const (.int .i64 0)) y,ty,ps,af,none⟩::rest) fr hp:=by
 refine WL.of fun P0 B w0 w a hh hf=>?_;have h1:a.eval y = .int .i64 k:=by rw[<- hj];exact hy.ev hf
 obtain⟨i,hi,hz,hsz,hbt⟩:=info_parts E.info;obtain⟨w',hr,r1,r2⟩:=run_make_own (P:=P) w 0 t e i z 1 E.und hi hz hsz .i64 .i64 k (by rw[hbt];exact hb) hm (Nat.zero_le _);refine Zr rfl (v:=.slice (some ⟨w.heap.size,0,none⟩) 0 k) (w':=w') ?_ ?_
 ·unfold execOp;have hc:a.eval (.const (.int .i64 0)) = .int .i64 0:=rfl;simp only[h1,hc,Sem.run_bind,hr,Result.andThen_ok,Sem.run_pure]
 have hx:Ext w w':=⟨r2.os,r2.tape,r2.output,r2.size,fun k hk=>r2.block k hk (by simp)⟩;have hb:∀q,(Zk (.slice (some ⟨w.heap.size,0,none⟩) 0 k) e R ([]:List α)).blk=some q->w.heap.size≤q/\q<w'.heap.size:=fun q hq=>by
  cases hq;exact⟨Nat.le_refl _,(r1.lt _ rfl).2⟩
 refine(h _).on (hh.push hx hb ⟨[],rfl,r1,fun k a b=>absurd b (Nat.not_lt_zero _)⟩) ?_;exact Fr.put (hf.mono fun d _ hd=>ZAJ hx (fun k hk=>(hb k hk).1) hd) rfl
end
end
section
open Go.RowKit
theorem ZN2 {α β:Type} {R:Rel α} {S:Rel β} [Good R] [Good S] {p:α × β}:(dS (R2 R S) p).le (ZEP [dS R p.1,dS S p.2]):=fun _ _ _ h=>by
 obtain⟨u,u',rfl,h0,h0',h1,h2⟩:=h;exact⟨[u,u'],rfl,rfl,fun c hc=>by
  simp only[List.mem_cons,List.not_mem_nil,or_false] at hc;rcases hc with rfl|rfl <;> assumption,fun k c d hc hd=>by
  match k,hc,hd with
  | 0,hc,hd=>cases hc;cases hd;exact h1
  | 1,hc,hd=>cases hc;cases hd;exact h2⟩
theorem ZEd {α β:Type} {R:Rel α} {S:Rel β} [Good R] [Good S] {x:α} {y:β}:(ZEP [dS R x,dS S y]).le (dS (R2 R S) (x,y)):=fun _ _ _ h=>by
 obtain⟨cs,rfl,hl,h3,h4⟩:=h
 match cs,hl with
 | [u,u'],_=>exact⟨u,u',rfl,h3 u (by simp),h3 u' (by simp),h4 0 u _ rfl rfl,h4 1 u' _ rfl rfl⟩
theorem Zj {u v:Value} (h0:u.oneCell'=true) (h1:v.oneCell'=true):(dX (.agg #[u,v])).Shape 2 true:=fun _ _ _ h=>by
 cases (h:_=_);exact⟨[u,v],rfl,by decide,fun c hc=>by
  simp only[List.mem_cons,List.not_mem_nil,or_false] at hc;rcases hc with rfl|rfl <;> assumption,rfl,rfl⟩
section
variable {P:Program} {ops:Array Oper} {hp:List HObj} {fr:List Dat} {d:Dat} {Q:Z5} {rest:List Oper} {b:Nat} {T:TypeId}
structure Halt5 (p:Prop):Prop where
 go:p
theorem WC.only5 (id:Nat) {l:Array Oper} {m:Bool} (h:WC P Q (.region id l m) fr hp):WC P Q (.region id l m) fr hp:=h
theorem ZRG {ds:List Dat} (h:WL P ops Q rest fr (ZAX b T ds::hp)):WL P ops Q rest fr (Zm b T ds.length true (ZEP ds)::hp):=WL.of fun P0 B w0 w a hh hf=>by
 obtain⟨cs,u,c1,c2,c0,c3,c4,c5⟩:=hh.ok (Zm b T ds.length true (ZEP ds)) (by simp);obtain⟨cs',k1,k2,k3,k4⟩:=c5;simp only[if_true] at c4;rw[k1] at c4;have hcs:cs'=cs:=by injection c4 with c4;exact List.toArray_inj c4
 subst hcs;have hgr:w.grownBy w (Zm b T ds.length true (ZEP ds)).blk:=⟨rfl,rfl,rfl,Nat.le_refl _,fun _ _ _=>rfl⟩;have hok:(ZAX b T ds).ok (fun k=>Imm P0 B (Zm b T ds.length true (ZEP ds)::hp) k/\k<w.heap.size) w:=⟨cs',c1,k2,k3,fun k c d hc hd=>d.bound (k4 k c d hc hd)⟩;exact h.on (hh.write hgr (.inl rfl) hok) (hf.mono fun _ _ hd=>Ze (o':=ZAX b T ds) hgr (.inl rfl) hd)
end
section
variable {P:Program} {f:FuncId} {fn:Func} {c:Code} {ds:List Dat} {hp1:List HObj} {K:Dat->List HObj->Prop}
def ZU9 (t:Nat) (n:Nat) (agg:Bool) (K:Dat->List HObj->Prop) (hp:List HObj):Z5:=fun e f q=>(match e with|.normal|.ret=>True|_=>False)/\∃d hp2,f[t]?=some (dP n agg d)/\q=hp2++hp/\K d hp2
theorem ZIF {t:Tmp} {T:TypeId} {n:Nat} {agg:Bool} (T':TyI P T n agg) (hf:P.funcs[f]?=some fn) (hb:fn.body=some c) (hr:fn.results=#[.cell t T])
  (h:∀hp,WC P (ZU9 t n agg K hp) c (ds++List.replicate (fn.ntmps-ds.length) (dX undef)) (hp1++hp)):CallC P f ds hp1 K:=⟨fun P0 B w0 hp vs W hh hl hv=>by
 refine calls_of_wp hf hb ?_;have hf0:=ZCB (m:=fn.ntmps-ds.length) hl hv;have hsz:vs.toArray.size=ds.length:=by simp[hl]
 rw[hsz];refine Code.wp_mono (fun e a' w' ⟨f',p',q,hh',hf'⟩=>?_) ((h hp).on hh hf0);obtain⟨hx,d',hp2,hd',rfl,hk'⟩:=q;obtain⟨b,off,u,h1,h2,h3⟩:=hf'.rd t _ hd';cases e with
 | normal=>exact⟨hf'.defers,_,ZDb T' hr h1 h2,_,_,hp2,rfl,hk',hh',h3⟩
 | ret=>exact⟨hf'.defers,_,ZDb T' hr h1 h2,_,_,hp2,rfl,hk',hh',h3⟩
 | _=>exact hx.elim⟩
end
end
section
open Go.RowKit

theorem ZFJ:TyZ Tryz.prog 93 (.agg #[.slice none 0 0,.nilFunc]):=⟨by kernel_rfl⟩
theorem ZT2 (s:Value) (f:FuncId) (cap:Array Value) (w:World):(Instr.build 93 #[(0,.agg #[s]),(1,.func (.func f) #[] cap)]).run Tryz.prog w = .ok (.agg #[s,.func (.func f) #[] cap]) w:=by go_simp
section
variable {ops:Array Oper} {hp:List HObj} {fr:List Dat} {dst:Option Tmp} {ty:TypeId} {ps:String} {af:Array Edge} {g:Option (Nat × Bool)}
theorem ZOG {l:Cx} {f:Vx->Int} {x y:Operand} (hx:OpD fr x (dS Cpx l)) (hy:OpD fr y (ZNJ f)):SY Tryz.prog ops hp ⟨dst,.build 93 #[(0,x),(1,y)],ty,ps,af,g⟩ fr (ZHa l f):=SY.val fun {I w a} ho=>by
 obtain⟨s,h1,hs,h2⟩:Cpx I w (a.eval x) l:=hx.get (by simp[Op.operands]) ho;have h3:=hy.get (by simp[Op.operands]) ho;obtain⟨q,cap,h4,h5⟩:=h3;refine⟨.agg #[s,.func (.func q) #[] cap],?_,[s,.func (.func q) #[] cap],rfl,rfl,fun c hc=>?_,fun k c e hc he=>?_⟩
 ·unfold execOp;simp only[List.map_toArray,List.map_cons,List.map_nil,h1,h4,Sem.run_bind,ZT2,Result.andThen_ok,Sem.run_pure]
 ·simp at hc;rcases hc with rfl|rfl
  ·exact hs
  ·rfl
 ·match k,hc,he with
  | 0,hc,he=>cases hc;cases he;exact h2
  | 1,hc,he=>cases hc;cases he;exact⟨q,cap,rfl,h5⟩
end
def ZCE (l:Cx) (vs:List Vx) (A:List Int):Int:=if(ZBf l).2≠0 then(ZBf l).2 else if ZAW vs A≠0 then ZAW vs A else if ZGJ l (Zd vs A)=false then 6 else 0
theorem ZGG (l:Cx) (vs:List Vx) (A:List Int) (h:ZCE l vs A=0):Fn Tryz.prog 57 [dS Cpx l,dS Lab (vs,A)] (dT [ZHa l (Zd vs A),dI 0]):=by
 have c1:=ZG2 l;have c2:=ZFW vs A;unfold ZCE at h;by_cases h1:(ZBf l).2≠0
 ·rw[if_pos h1] at h;exact absurd h h1
 rw[if_neg h1] at h;by_cases h2:ZAW vs A≠0
 ·rw[if_pos h2] at h;exact absurd h h2
 rw[if_neg h2] at h;have h1':(ZBf l).2=0:=Classical.byContradiction h1;have h2':ZAW vs A=0:=Classical.byContradiction h2;have h3:ZGJ l (Zd vs A)=true:=by
  cases e:ZGJ l (Zd vs A) with
  | true=>rfl
  | false=>rw[if_pos e] at h;cases h
 rw[h1'] at c1;rw[h2'] at c2;obtain⟨g1,g2,g3,g4,g5⟩:=ZAp h2';have c3:=ZGK l vs A g3 g2 (by omega);rw[h3] at c3;have c4:=ZGM vs A g3 g2 (by omega);refine ZCu ZBx Tryz.func57 rfl rfl ?_
 -- @kinds sperner.begin
 simp only[Tryz.ntmps57,List.length_cons,List.length_nil,Nat.reduceAdd,Nat.reduceSub,List.replicate_succ,List.replicate_zero,List.cons_append,List.nil_append];((repeat' (first |  (apply WC.drawTail (id:=9) 4;kernel_rfl;kernel_rfl;simp only[List.take_succ_cons,List.take_zero,List.drop_succ_cons,List.drop_zero])|((first|apply WL.opN|apply WD.opN);exact yF;dsimp only[ZC,z0,z1])|refine WL.nil ?_|refine WD.nil ?_|refine ZA fun Kx hK=>?_|(refine hK _ _ ?_;clear hK)|refine WC.region ?_ |  (refine WL.alloc (dst:=some 4) ZFJ (Zj rfl rfl) fun b4=>?_;dsimp only[ZC,z0,z1]) |  (refine ZP ZBx rfl (OpD.t rfl) (ZAD (n:=2) (by decide) rfl) ?_;dsimp only[ZC,z0,z1])|((first|apply WL.opN|apply WD.opN);(focus ((first|(apply SY.call (c1) Tryz.call97;(exact aD))|(apply SY.call (c2) Tryz.call13;(exact aD))|(apply SY.call (c3) Tryz.call44;(exact aD))|(apply SY.call (c4) Tryz.call46;(exact aD))|(exact ZOG (OpD.t rfl) (OpD.t rfl))|(apply SY.load;exact ZAz;exact OpD.t rfl)|((first|apply SY.move|apply SY.assign|apply SY.neq|apply SY.not) <;> (exact oD))|(apply SY.extract;(exact oD);rfl)|(apply SY.box;(exact oD);(exact hD))|fail);all_goals infer_instance));dsimp only[ZC,z0,z1])|(apply ZG;(exact oD);all_goals (intro h;try exact xD))|(apply ZO;(exact oD);all_goals (intro h;try exact xD))|refine WC.skip ?_|refine WC.ret ?_));all_goals (first|((repeat clear hK);(repeat clear Kx))))
 all_goals try (exfalso;first|contradiction|omega)
 exact⟨trivial,⟨_,rfl,FinD.le (Dat.le_refl _)⟩,_,rfl,FinD.le (Dat.le_refl _)⟩
end
section
open Go.RowKit

def ZNN (vs:List Vx) (A:List Int):Bool:=decide (4096<vs.length) || (decide (vs.length≤40) && decide (A.length≤60))
theorem ZTn (vs:List Vx) (A:List Int):Fn Tryz.prog 31 [dS Lab (vs,A)] (dB (ZNN vs A)):=by
 obtain⟨o,ho⟩:∃o,ZNN vs A=o:=⟨_,rfl⟩;rw[ho];unfold ZNN at ho;(refine ZE Tryz.func31 rfl rfl ?_;simp only[Tryz.ntmps31,List.length_cons,List.length_nil,Nat.reduceAdd,Nat.reduceSub,List.replicate_succ,List.replicate_zero,List.cons_append,List.nil_append])
 by_cases h1:4096<vs.length
 ·have h1I:(vs.length:Int)>4096:=by omega
  rw[decide_eq_true h1,Bool.true_or] at ho;subst ho;((repeat' (first|(apply WL.opN;exact yF;dsimp only[ZC,z0,z1])|refine WL.nil ?_|refine ZA fun Kx hK=>?_|(refine hK _ _ ?_;clear hK)|refine WC.region ?_ |  (apply ZF;(focus (apply SYG.no;exact ZDJ rfl rfl rfl));dsimp only[ZC,z0,z1])|(apply ZF;(focus (first|exact wN|(apply SYG.yes;(exact wY);((first|(refine ZV ZAO (OpD.t rfl) Zx rfl rfl)|((first|apply SY.move|apply SY.assign|apply SY.leq|apply SY.gtr) <;> (exact oD))|(apply SY.len;(exact oD);(exact nD);(exact uD))|(apply ZZ;(exact oD);(with_reducible rfl);(exact oD))|(apply SY.box;(exact oD);(exact hD))|fail);all_goals infer_instance))));dsimp only[ZC,z0,z1])|((first|refine ZK rfl rfl rfl (fun h=>?_) (fun h=>?_)|refine ZJ rfl rfl rfl (fun h=>?_) (fun h=>?_)|refine ZI rfl rfl rfl (fun h=>?_) (fun h=>?_)) <;> (first|(exfalso;first|omega|contradiction)|(dsimp only[z0,z1])))|refine WC.ret ?_));all_goals (first|((repeat clear hK);(repeat clear Kx))))
  all_goals try (exfalso;first|contradiction|omega)
  (refine⟨trivial,_,rfl,?_⟩;exact fD)
 ·have h1I:¬ (vs.length:Int)>4096:=by omega
  rw[decide_eq_false h1,Bool.false_or] at ho;by_cases h2:vs.length≤40
  ·have h2I:(vs.length:Int)≤40:=by omega
   rw[decide_eq_true h2,Bool.true_and] at ho;subst ho;((repeat' (first|(apply WL.opN;exact yF;dsimp only[ZC,z0,z1])|refine WL.nil ?_|refine ZA fun Kx hK=>?_|(refine hK _ _ ?_;clear hK)|refine WC.region ?_|(apply ZF;(focus (first|exact wN|(apply SYG.yes;(exact wY);((first|(refine ZV ZAO (OpD.t rfl) Zx rfl rfl)|(apply SY.load;exact ZEM;exact OpD.t rfl)|((first|apply SY.move|apply SY.assign|apply SY.leq|apply SY.gtr) <;> (exact oD))|(apply SY.load;(exact tD);(exact oD))|(apply SY.len;(exact oD);(exact nD);(exact uD))|(apply ZZ;(exact oD);(with_reducible rfl);(exact oD))|(apply ZY;(exact oD);(with_reducible rfl);(exact oD))|(apply SY.box;(exact oD);(exact hD))|fail);all_goals infer_instance))));dsimp only[ZC,z0,z1])|((first|refine ZK rfl rfl rfl (fun h=>?_) (fun h=>?_)|refine ZJ rfl rfl rfl (fun h=>?_) (fun h=>?_)|refine ZI rfl rfl rfl (fun h=>?_) (fun h=>?_)) <;> (first|(exfalso;first|omega|contradiction)|(dsimp only[z0,z1])))|refine WC.ret ?_));all_goals (first|((repeat clear hK);(repeat clear Kx))))
   all_goals try (exfalso;first|contradiction|omega)
   (refine⟨trivial,_,rfl,?_⟩;refine FinD.b ?_)
   by_cases h3:A.length≤60
   ·rw[decide_eq_true h3,decide_eq_true (by omega)]
   ·rw[decide_eq_false h3,decide_eq_false (by omega)]
  ·have h2I:¬ (vs.length:Int)≤40:=by omega
   rw[decide_eq_false h2,Bool.false_and] at ho;subst ho;((repeat' (first|(apply WL.opN;exact yF;dsimp only[ZC,z0,z1])|refine WL.nil ?_|refine ZA fun Kx hK=>?_|(refine hK _ _ ?_;clear hK)|refine WC.region ?_|(apply ZF;(focus (first|exact wN|(apply SYG.yes;(exact wY);((first|(refine ZV ZAO (OpD.t rfl) Zx rfl rfl)|((first|apply SY.move|apply SY.assign|apply SY.leq|apply SY.gtr) <;> (exact oD))|(apply SY.load;(exact tD);(exact oD))|(apply SY.len;(exact oD);(exact nD);(exact uD))|(apply ZY;(exact oD);(with_reducible rfl);(exact oD))|(apply SY.box;(exact oD);(exact hD))|fail);all_goals infer_instance))));dsimp only[ZC,z0,z1])|((first|refine ZK rfl rfl rfl (fun h=>?_) (fun h=>?_)|refine ZJ rfl rfl rfl (fun h=>?_) (fun h=>?_)|refine ZI rfl rfl rfl (fun h=>?_) (fun h=>?_)) <;> (first|(exfalso;first|omega|contradiction)|(dsimp only[z0,z1])))|refine WC.ret ?_));all_goals (first|((repeat clear hK);(repeat clear Kx))))
   all_goals try (exfalso;first|contradiction|omega)
   (refine⟨trivial,_,rfl,?_⟩;exact fD)
end
section
open Go.RowKit

abbrev ZFw:Rel (List Cx):=Arr Zh
theorem ZAK:ElT Tryz.prog 54 27 1 (.slice none 0 0) 24 false:=⟨Tryz.underlying54,by kernel_rfl,Tryz.isAgg27,rfl⟩
abbrev dEqS:Dat:=ZK7 Tryz.prog (fun l:Cx=>[dS Zh l,dS Zh l]) (fun _=>dB true)
theorem ZU4 (a:List Cx):Fn Tryz.prog 66 [dS ZFw a,dS ZFw a,dEqS] (dB true):=by
 (refine ZE Tryz.func66 rfl rfl ?_;simp only[Tryz.ntmps66,List.length_cons,List.length_nil,Nat.reduceAdd,Nat.reduceSub,List.replicate_succ,List.replicate_zero,List.cons_append,List.nil_append])
 (first|refine ZR (t:=0) rfl ZEH fun hl0=>?_|refine ZR (t:=0) rfl ZDu fun hl0=>?_|refine ZR (t:=0) rfl ZJS fun hl0=>?_);simp only[maxLen] at hl0
 (repeat' (first|(apply WL.opN;exact yF;dsimp only[ZC,z0,z1])|refine WL.nil ?_|refine ZA fun Kx hK=>?_|(refine hK _ _ ?_;clear hK)|refine WC.region ?_|(apply WL.opN;(focus ((first|(apply SY.len;exact OpD.t rfl;exact ZB0;exact ZAK.unt)|((first|apply SY.move|apply SY.assign|apply SY.lss|apply SY.neq|apply SY.not) <;> (exact oD))|fail);all_goals infer_instance));dsimp only[ZC,z0,z1])|(apply ZG;(exact oD);all_goals (intro h;try exact xD))|refine WC.skip ?_|refine WC.block ?_))
 all_goals try (exfalso;first|contradiction|omega)
 (refine WC.loopU (X:=Nat) (fun k=>[(17,dI (k:Int)),(6,dA),(7,dA),(8,dA),(9,dA),(18,dA),(19,dA),(20,dA),(21,dA),(22,dA),(23,dA),(24,dA),(25,dA),(26,dA),(27,dA),(28,dA),(29,dA),(30,dA),(31,dA)]) (fun k=>[]) (fun k=>a.length-k) (fun k=>k≤a.length) 0 ?start ?frame0 ?objs0 ?round)
 case start=>exact Nat.zero_le _
 case frame0=>exact zFr
 case objs0=>rfl
 case round =>
  rintro k hk;dsimp only[ZL,z0,z1];by_cases hkl:k<a.length
  ·have hkI:(k:Int)<(a.length:Int):=by omega
   ((repeat' (first|(apply WL.opN;exact yF;dsimp only[ZC,z0,z1])|refine WL.nil ?_|refine ZA fun Kx hK=>?_|(refine hK _ _ ?_;clear hK)|refine WC.region ?_|(apply WL.opN;(focus ((first|(exact SY.ix (R:=Zh) (_gR:=inferInstance) (k:=k) ZAK (OpD.t rfl) (OpD.t rfl) hkl)|(apply ZBJ (x:=a[k]);(exact OpD.t rfl);(exact aD))|((first|apply SY.move|apply SY.assign|apply SY.lss|apply SY.neq|apply SY.not) <;> (exact oD))|((first|apply SY.add) <;> first|exact oD|omega)|fail);all_goals infer_instance));dsimp only[ZC,z0,z1])|(apply ZB;(exact oD);all_goals (intro h;try exact xD))|(apply ZO;(exact oD);all_goals (intro h;try exact xD))|refine WC.skip ?_|refine WC.block ?_|refine ThenD.n ?_));all_goals (first|((repeat clear hK);(repeat clear Kx))))
   all_goals try (exfalso;first|contradiction|omega)
   (refine zNx (k+1) ?_;(try dsimp only))
   exact hkl
  ·have hkI:¬ (k:Int)<(a.length:Int):=by omega
   ((repeat' (first|(apply WL.opN;exact yF;dsimp only[ZC,z0,z1])|refine WL.nil ?_|refine ZA fun Kx hK=>?_|(refine hK _ _ ?_;clear hK)|(refine Kont.skip ?_;clear hK)|refine WC.region ?_|(apply WL.opN;(focus ((first|((first|apply SY.move|apply SY.assign|apply SY.lss|apply SY.neq|apply SY.not) <;> (exact oD))|fail);all_goals infer_instance));dsimp only[ZC,z0,z1])|(apply ZB;(exact oD);all_goals (intro h;try exact xD))|refine WC.ret ?_|refine WC.exit ?_));all_goals (first|((repeat clear hK);(repeat clear Kx))))
   all_goals try (exfalso;first|contradiction|omega)
   (refine⟨trivial,_,rfl,?_⟩;exact fD)
theorem ZKl (a:List Cx):Fn Tryz.prog 25 [dS ZFw a,dS ZFw a] (dB true):=by
 have c1:=ZU4 a;(refine ZE Tryz.func25 rfl rfl ?_;simp only[Tryz.ntmps25,List.length_cons,List.length_nil,Nat.reduceAdd,Nat.reduceSub,List.replicate_succ,List.replicate_zero,List.cons_append,List.nil_append])
 ((repeat' (first|(apply WL.opN;exact yF;dsimp only[ZC,z0,z1])|refine WL.nil ?_|refine ZA fun Kx hK=>?_|(refine hK _ _ ?_;clear hK)|refine WC.region ?_|(apply WL.opN;(focus ((first|(apply SY.call c1 Tryz.call66;exact ArgsD.cons (OpD.t rfl) (ArgsD.cons (OpD.t rfl) (ArgsD.cons ⟨ZKN Tryz.call17 fun l=>ZKm l⟩ ArgsD.nil)))|fail);all_goals infer_instance));dsimp only[ZC,z0,z1])|refine WC.ret ?_));all_goals (first|((repeat clear hK);(repeat clear Kx))))
 all_goals try (exfalso;first|contradiction|omega)
 (refine⟨trivial,_,rfl,?_⟩;exact fD)
end
end Go.Proofs.YtofkoleingbbpaaGreatDoor
namespace Go.Proofs
section
open Go.Shelf
def Tryz.laysAI_ren:Go.Shelf.Ren:=⟨fun|176=>114|249=>144|288=>158|283=>165|284=>166|285=>167|286=>168|129=>178|317=>187|318=>188|319=>189|320=>190|337=>199|338=>200|n=>n,fun|37=>65|2=>2|3=>3|53=>207|4=>4|9=>9|171=>215|0=>0|173=>218|212=>236|51=>228|5=>5|20=>20|213=>237|46=>177|232=>249|233=>250|n=>n,fun|17=>0|18=>1|19=>2|n=>n⟩
theorem Tryz.laysAI:Go.Proofs.LaysM.n176 Tryz.prog Tryz.laysAI_ren:={
 mixed:=by kernel_rfl
 f129:=Tryz.func178.trans (congrArg some (by kernel_rfl))
 f176:=Tryz.func114.trans (congrArg some (by kernel_rfl))
 f249:=Tryz.func144.trans (congrArg some (by kernel_rfl))
 f283:=Tryz.func165.trans (congrArg some (by kernel_rfl))
 f284:=Tryz.func166.trans (congrArg some (by kernel_rfl))
 f285:=Tryz.func167.trans (congrArg some (by kernel_rfl))
 f286:=Tryz.func168.trans (congrArg some (by kernel_rfl))
 f288:=Tryz.func158.trans (congrArg some (by kernel_rfl))
 f317:=Tryz.func187.trans (congrArg some (by kernel_rfl))
 f318:=Tryz.func188.trans (congrArg some (by kernel_rfl))
 f319:=Tryz.func189.trans (congrArg some (by kernel_rfl))
 f320:=Tryz.func190.trans (congrArg some (by kernel_rfl))
 f337:=Tryz.func199.trans (congrArg some (by kernel_rfl))
 f338:=Tryz.func200.trans (congrArg some (by kernel_rfl))
 t0:=Tryz.underlying0
 a0:=Tryz.isAgg0
 z0:=Tryz.sizeOf0
 v0:=Tryz.zeroValue0
 t2:=Tryz.underlying2
 a2:=Tryz.isAgg2
 z2:=Tryz.sizeOf2
 v2:=Tryz.zeroValue2
 t3:=Tryz.underlying3
 a3:=Tryz.isAgg3
 z3:=Tryz.sizeOf3
 v3:=Tryz.zeroValue3
 t4:=Tryz.underlying4
 a4:=Tryz.isAgg4
 z4:=Tryz.sizeOf4
 v4:=Tryz.zeroValue4
 t5:=Tryz.underlying5
 a5:=Tryz.isAgg5
 z5:=Tryz.sizeOf5
 v5:=Tryz.zeroValue5
 t9:=Tryz.underlying9
 a9:=Tryz.isAgg9
 z9:=Tryz.sizeOf9
 v9:=Tryz.zeroValue9
 t20:=Tryz.underlying20
 a20:=Tryz.isAgg20
 z20:=Tryz.sizeOf20
 v20:=Tryz.zeroValue20
 t37:=Tryz.underlying65
 a37:=Tryz.isAgg65
 z37:=Tryz.sizeOf65
 v37:=Tryz.zeroValue65
 t46:=Tryz.underlying177
 a46:=Tryz.isAgg177
 z46:=Tryz.sizeOf177
 v46:=Tryz.zeroValue177
 t51:=Tryz.underlying228
 a51:=Tryz.isAgg228
 z51:=Tryz.sizeOf228
 v51:=Tryz.zeroValue228
 t53:=Tryz.underlying207
 a53:=Tryz.isAgg207
 z53:=Tryz.sizeOf207
 v53:=Tryz.zeroValue207
 t171:=Tryz.underlying215
 a171:=Tryz.isAgg215
 z171:=Tryz.sizeOf215
 v171:=Tryz.zeroValue215
 t173:=Tryz.underlying218
 a173:=Tryz.isAgg218
 z173:=Tryz.sizeOf218
 v173:=Tryz.zeroValue218
 t212:=Tryz.underlying236
 a212:=Tryz.isAgg236
 z212:=Tryz.sizeOf236
 v212:=Tryz.zeroValue236
 t213:=Tryz.underlying237
 a213:=Tryz.isAgg237
 z213:=Tryz.sizeOf237
 t232:=Tryz.underlying249
 a232:=Tryz.isAgg249
 z232:=Tryz.sizeOf249
 v232:=Tryz.zeroValue249
 t233:=Tryz.underlying250
 a233:=Tryz.isAgg250
 z233:=Tryz.sizeOf250
 v233:=Tryz.zeroValue250
 g17:=by kernel_rfl
 g18:=by kernel_rfl
 g19:=by kernel_rfl
 i0:=by kernel_rfl
 i2:=by kernel_rfl
 i3:=by kernel_rfl
 i4:=by kernel_rfl
 i5:=by kernel_rfl
 i9:=by kernel_rfl
 i20:=by kernel_rfl
 i37:=by kernel_rfl
 i46:=by kernel_rfl
 i51:=by kernel_rfl
 i53:=by kernel_rfl
 i171:=by kernel_rfl
 i173:=by kernel_rfl
 i212:=by kernel_rfl
 i232:=by kernel_rfl
 i233:=by kernel_rfl
 m17:=by kernel_rfl
 m18:=by kernel_rfl
 m19:=by kernel_rfl }
end
end Go.Proofs
namespace Go.Proofs.YtofkoleingbbpaaGreatDoor
section
open Go.Proofs Go.Shelf Go.RowKit Go.Sort Go.Lib
variable {P:Program} {ρ:Ren}
set_option maxRecDepth 100000 in
theorem ZIU (L:LaysM.n249 P ρ) (B n u:Nat) (hu:u<100) (sv:Value) (xs:List Value) (w:World) (hown:w.ownsRow B (ρ.t 5) 1 sv n xs) (hBw:B≤w.heap.size) (hlim:n+21≤140737488355328) :
  Calls P (ρ.f 249) #[sv,.int .i64 (u:Int),.int .i64 10] w fun e w'=>∃v',e = .returned v'/\w'.ownsRow B (ρ.t 5) 1 v' (n+(Lib.itoa (u:Int)).length) (xs++Lib.byteCells (Lib.itoa (u:Int)))/\Below B w w'/\Lib.OthersKept (ρ.t 5) none w w':=by
 have mixed:=L.mixed;have t5:=L.t5;have a5:=L.a5;have z5:=L.z5;have v5:=L.v5;have t37:=L.t37;have u37:=run_underlying L.t37;have a37:=L.a37;have z37:=L.z37;have v37:=L.v37;have t2:=L.t2;have a2:=L.a2;have z2:=L.z2;have v2:=L.v2;have t3:=L.t3;have a3:=L.a3;have z3:=L.z3;have v3:=L.v3;have t53:=L.t53;have a53:=L.a53;have z53:=L.z53;have v53:=L.v53;have t4:=L.t4;have a4:=L.a4;have z4:=L.z4;have v4:=L.v4;have e288:∀args w,(callFunc (ρ.f 288) args).run P w = .ok (.enter (ρ.f 288) args) w:=enters_of L.f288 (by kernel_rfl) rfl;have hneg:¬ (u:Int)<0:=by omega
 have hu64:u<18446744073709551616:=by omega
 rw[Lib.itoa_nonneg]
 go_enter L.f249,Body.n249_ntmps ρ
 go_wp2_with (go_at_fn (ρ.f 288);refine(Any.internal_strconv_AppendUint_10_small { L with } B n u hu sv xs w hown hBw (by omega)).mono ?_;rintro e w2 ⟨v2,rfl,hown2,hnx2,hok2⟩)
 go_wp2
 first|go_ret|go_ret2
 exact⟨v2,rfl,hown2,hnx2,hok2⟩
set_option maxRecDepth 100000 in
theorem ZM9 (L:LaysM.n176 P ρ) (B n u:Nat) (hu:u<100) (sv:Value) (xs:List Value) (w:World) (hown:w.ownsRow B (ρ.t 5) 1 sv n xs) (hBw:B≤w.heap.size) (hlim:n+21≤140737488355328) :
  Calls P (ρ.f 176) #[sv,.int .i64 (u:Int),.int .i64 10] w fun e w'=>∃v',e = .returned v'/\w'.ownsRow B (ρ.t 5) 1 v' (n+(Lib.itoa (u:Int)).length) (xs++Lib.byteCells (Lib.itoa (u:Int)))/\Below B w w'/\Lib.OthersKept (ρ.t 5) none w w':=by
 have mixed:=L.mixed;have t5:=L.t5;have a5:=L.a5;have z5:=L.z5;have v5:=L.v5;have t37:=L.t37;have u37:=run_underlying L.t37;have a37:=L.a37;have z37:=L.z37;have v37:=L.v37;have t2:=L.t2;have a2:=L.a2;have z2:=L.z2;have v2:=L.v2;have t3:=L.t3;have a3:=L.a3;have z3:=L.z3;have v3:=L.v3;have e249:∀args w,(callFunc (ρ.f 249) args).run P w = .ok (.enter (ρ.f 249) args) w:=enters_of L.f249 (by kernel_rfl) rfl
 go_enter L.f176,Body.n176_ntmps ρ
 go_wp2_with (go_at_fn (ρ.f 249);refine(ZIU { L with } B n u hu sv xs w hown hBw hlim).mono ?_;rintro e w2 ⟨v2,rfl,hown2,hnx2,hok2⟩)
 go_wp2
 go_ret
 exact⟨v2,rfl,hown2,hnx2,hok2⟩
end
section
section
variable {s:List Vx}
def GoodS (s:List Vx):Prop:=ZAC s=0/\ZU3 s=true/\s.length≤4
theorem GoodS.len (h:GoodS s):1≤s.length:=by have:=Zi.1 h.1;omega
end
end
section
def ZKc (V:List Vx) (v:Vx):Int:=ZH2 (fun y=>decide (v=y)) 0 V
theorem ZMQ {α:Type} {p:α->Bool}:∀(l:List α) (k:Nat),0≤ZH2 p k l->∃j,ZH2 p k l=((k+j:Nat):Int)/\∃h:j<l.length,p l[j]=true
 | [],k,h=>absurd h (by unfold ZH2;omega)
 | x::l,k,h=>by
  unfold ZH2 at h ⊢;by_cases hx:p x=true
  ·rw[if_pos hx];exact⟨0,by simp,by simp,by simpa using hx⟩
  ·rw[if_neg hx] at h ⊢;obtain⟨j,h1,h2,h3⟩:=ZMQ l (k+1) h;exact⟨j+1,by rw[h1];congr 1;omega,by simpa using h2,by simpa using h3⟩
theorem ZSA {V:List Vx} {v:Vx} (h:0≤ZKc V v):∃j:Nat,ZKc V v=(j:Int)/\∃h:j<V.length,V[j]=v:=by
 obtain⟨j,h1,h2,h3⟩:=ZMQ V 0 h;exact⟨j,by rw[Nat.zero_add] at h1;exact h1,h2,(of_decide_eq_true h3).symm⟩
def ZJx (V:List Vx) (C:Cx) (out:List Vx) (v:Vx):List Vx:=if 0≤ZKc V v then out++(C[(ZKc V v).toNat]?.getD []) else out
def ZSp (V:List Vx) (C:Cx) (s:List Vx):List Vx:=s.foldl (ZJx V C) []
def unP (V:List Vx) (C:Cx) (s:List Vx):List Vx:=if(ofV (ZSp V C s)).2≠0 then[] else(ofV (ZSp V C s)).1
theorem ZOv (V:List Vx) (C:Cx) (hc:∀c∈C,c.length≤8):∀(s out:List Vx),(s.foldl (ZJx V C) out).length≤out.length+8*s.length
 | [],out=>by simp
 | v::s,out=>by
  rw[List.foldl_cons];have h1:=ZOv V C hc s (ZJx V C out v);have h2:(ZJx V C out v).length≤out.length+8:=by
   unfold ZJx;split
   ·rw[List.length_append];have:(C[(ZKc V v).toNat]?.getD []).length≤8:=by
     cases h:C[(ZKc V v).toNat]? with
     | none=>simp
     | some c=>exact hc c (List.mem_of_getElem? h)
    omega
   ·omega
  simp only[List.length_cons];omega
def okP (c:Cx) (V:List Vx) (C:Cx) (f:List Vx):Bool:=decide ((ZEg c (unP V C f)).2=0) && (ZEg c (unP V C f)).1
def ZNw (c:Cx):List (List Vx)->Int
 | []=>0
 | s::l=>if ZAC s≠0 then ZAC s else if ZBm c s=false then 6 else ZNw c l
def ZDo (p:List Vx->Bool) (c F:Cx) (V:List Vx) (C:Cx):Int :=
 if ZBB c≠0 then ZBB c else if ZBB F≠0 then ZBB F else if ¬ (V=ZET F/\C.length=V.length) then 15 else if ZNw c C≠0 then ZNw c C else if F.all p=true then 0 else 22
theorem ZJw {c:Cx}:∀ {l:List (List Vx)},ZNw c l=0->∀s∈l,ZAC s=0/\ZBm c s=true
 | [],_,_,h=>by cases h
 | s::l,h,x,hx=>by
  unfold ZNw at h;by_cases h1:ZAC s≠0
  ·rw[if_pos h1] at h;exact absurd h h1
  rw[if_neg h1] at h;by_cases h2:ZBm c s=false
  ·rw[if_pos h2] at h;exact absurd h (by decide)
  rw[if_neg h2] at h;rcases List.mem_cons.1 hx with rfl|hx
  ·exact⟨by omega,by simpa using h2⟩
  ·exact ZJw h x hx
end
end Go.Proofs.YtofkoleingbbpaaGreatDoor
