/- Part 17 of the proof. -/
import Derived.Shelf.Strconv.AppendIntPublic10
import Derived.Test.YtofkoleingbbpaaGreatDoorZa16
set_option linter.all false
set_option maxRecDepth 100000
set_option maxHeartbeats 64000000
namespace Go.Proofs.YtofkoleingbbpaaGreatDoor
section
open Go.RowKit
theorem ZN4 {α β:Type} {R:Rel α} {S:Rel β} [Good R] [Good S] {p:α × β}:(dS (R2 R S) p).le (ZEN [dS R p.1,dS S p.2]):=fun _ _ _ h=>by
 obtain⟨u,u',rfl,h0,h0',h1,h2⟩:=h;exact⟨[u,u'],rfl,rfl,fun c hc=>by
  simp only[List.mem_cons,List.not_mem_nil,or_false] at hc;rcases hc with rfl|rfl <;> assumption,fun k c d hc hd=>by
  match k,hc,hd with
  | 0,hc,hd=>cases hc;cases hd;exact h1
  | 1,hc,hd=>cases hc;cases hd;exact h2⟩
theorem ZEc {α β:Type} {R:Rel α} {S:Rel β} [Good R] [Good S] {x:α} {y:β}:(ZEN [dS R x,dS S y]).le (dS (R2 R S) (x,y)):=fun _ _ _ h=>by
 obtain⟨cs,rfl,hl,h3,h4⟩:=h
 match cs,hl with
 | [u,u'],_=>exact⟨u,u',rfl,h3 u (by simp),h3 u' (by simp),h4 0 u _ rfl rfl,h4 1 u' _ rfl rfl⟩
theorem Zj {u v:Value} (h0:u.oneCell'=true) (h1:v.oneCell'=true):(dX (.agg #[u,v])).Shape 2 true:=fun _ _ _ h=>by
 cases (h:_=_);exact⟨[u,v],rfl,by decide,fun c hc=>by
  simp only[List.mem_cons,List.not_mem_nil,or_false] at hc;rcases hc with rfl|rfl <;> assumption,rfl,rfl⟩
section
variable {P:Program} {ops:Array Oper} {hp:List HObj} {fr:List Dat} {d:Dat} {Q:Z4} {rest:List Oper} {b:Nat} {T:TypeId}
structure Halt5 (p:Prop):Prop where
 go:p
theorem WC.only5 (id:Nat) {l:Array Oper} {m:Bool} (h:WC P Q (.region id l m) fr hp):WC P Q (.region id l m) fr hp:=h
theorem ZRH {ds:List Dat} (h:WL P ops Q rest fr (ZAV b T ds::hp)):WL P ops Q rest fr (Zm b T ds.length true (ZEN ds)::hp):=WL.of fun P0 B w0 w a hh hf=>by
 obtain⟨cs,u,c1,c2,c0,c3,c4,c5⟩:=hh.ok (Zm b T ds.length true (ZEN ds)) (by simp);obtain⟨cs',k1,k2,k3,k4⟩:=c5;simp only[if_true] at c4;rw[k1] at c4;have hcs:cs'=cs:=by injection c4 with c4;exact List.toArray_inj c4
 subst hcs;have hgr:w.grownBy w (Zm b T ds.length true (ZEN ds)).blk:=⟨rfl,rfl,rfl,Nat.le_refl _,fun _ _ _=>rfl⟩;have hok:(ZAV b T ds).ok (fun k=>Imm P0 B (Zm b T ds.length true (ZEN ds)::hp) k/\k<w.heap.size) w:=⟨cs',c1,k2,k3,fun k c d hc hd=>d.bound (k4 k c d hc hd)⟩;exact h.on (hh.write hgr (.inl rfl) hok) (hf.mono fun _ _ hd=>Zd (o':=ZAV b T ds) hgr (.inl rfl) hd)
end
section
variable {P:Program} {f:FuncId} {fn:Func} {c:Code} {ds:List Dat} {hp1:List HObj} {K:Dat->List HObj->Prop}
def ZVA (t:Nat) (n:Nat) (agg:Bool) (K:Dat->List HObj->Prop) (hp:List HObj):Z4:=fun e f q=>(match e with|.normal|.ret=>True|_=>False)/\∃d hp2,f[t]?=some (dP n agg d)/\q=hp2++hp/\K d hp2
theorem ZIF {t:Tmp} {T:TypeId} {n:Nat} {agg:Bool} (T':TyI P T n agg) (hf:P.funcs[f]?=some fn) (hb:fn.body=some c) (hr:fn.results=#[.cell t T])
  (h:∀hp,WC P (ZVA t n agg K hp) c (ds++List.replicate (fn.ntmps-ds.length) (dX undef)) (hp1++hp)):CallC P f ds hp1 K:=⟨fun P0 B w0 hp vs W hh hl hv=>by
 refine calls_of_wp hf hb ?_;have hf0:=ZCA (m:=fn.ntmps-ds.length) hl hv;have hsz:vs.toArray.size=ds.length:=by simp[hl]
 rw[hsz];refine Code.wp_mono (fun e a' w' ⟨f',p',q,hh',hf'⟩=>?_) ((h hp).on hh hf0);obtain⟨hx,d',hp2,hd',rfl,hk'⟩:=q;obtain⟨b,off,u,h1,h2,h3⟩:=hf'.rd t _ hd';cases e with
 | normal=>exact⟨hf'.defers,_,ZDb T' hr h1 h2,_,_,hp2,rfl,hk',hh',h3⟩
 | ret=>exact⟨hf'.defers,_,ZDb T' hr h1 h2,_,_,hp2,rfl,hk',hh',h3⟩
 | _=>exact hx.elim⟩
end
end
section
open Go.RowKit

theorem ZFI:TyZ Tryz.prog 93 (.agg #[.slice none 0 0,.nilFunc]):=⟨by kernel_rfl⟩
theorem ZT2 (s:Value) (f:FuncId) (cap:Array Value) (w:World):(Instr.build 93 #[(0,.agg #[s]),(1,.func (.func f) #[] cap)]).run Tryz.prog w = .ok (.agg #[s,.func (.func f) #[] cap]) w:=by go_simp
section
variable {ops:Array Oper} {hp:List HObj} {fr:List Dat} {dst:Option Tmp} {ty:TypeId} {ps:String} {af:Array Edge} {g:Option (Nat × Bool)}
theorem ZOI {l:Cx} {f:Vx->Int} {x y:Operand} (hx:OpD fr x (dS Cpx l)) (hy:OpD fr y (ZNL f)):SY Tryz.prog ops hp ⟨dst,.build 93 #[(0,x),(1,y)],ty,ps,af,g⟩ fr (ZHZ l f):=ZWK fun {I w a} ho=>by
 obtain⟨s,h1,hs,h2⟩:Cpx I w (a.eval x) l:=hx.get (by simp[Op.operands]) ho;have h3:=hy.get (by simp[Op.operands]) ho;obtain⟨q,cap,h4,h5⟩:=h3;refine⟨.agg #[s,.func (.func q) #[] cap],?_,[s,.func (.func q) #[] cap],rfl,rfl,fun c hc=>?_,fun k c e hc he=>?_⟩
 ·unfold execOp;simp only[List.map_toArray,List.map_cons,List.map_nil,h1,h4,Sem.run_bind,ZT2,Result.andThen_ok,Sem.run_pure]
 ·simp at hc;rcases hc with rfl|rfl
  ·exact hs
  ·rfl
 ·match k,hc,he with
  | 0,hc,he=>cases hc;cases he;exact h2
  | 1,hc,he=>cases hc;cases he;exact⟨q,cap,rfl,h5⟩
end
def ZCD (l:Cx) (vs:List Vx) (A:List Int):Int:=if(ZBf l).2≠0 then(ZBf l).2 else if ZAU vs A≠0 then ZAU vs A else if ZGJ l (Zc vs A)=false then 6 else 0
theorem ZGG (l:Cx) (vs:List Vx) (A:List Int) (h:ZCD l vs A=0):Fn Tryz.prog 57 [dS Cpx l,dS Lab (vs,A)] (dT [ZHZ l (Zc vs A),dI 0]):=by
 have c1:=ZG1 l;have c2:=ZFW vs A;unfold ZCD at h;by_cases h1:(ZBf l).2≠0
 ·rw[if_pos h1] at h;exact absurd h h1
 rw[if_neg h1] at h;by_cases h2:ZAU vs A≠0
 ·rw[if_pos h2] at h;exact absurd h h2
 rw[if_neg h2] at h;have h1':(ZBf l).2=0:=Classical.byContradiction h1;have h2':ZAU vs A=0:=Classical.byContradiction h2;have h3:ZGJ l (Zc vs A)=true:=by
  cases e:ZGJ l (Zc vs A) with
  | true=>rfl
  | false=>rw[if_pos e] at h;cases h
 rw[h1'] at c1;rw[h2'] at c2;obtain⟨g1,g2,g3,g4,g5⟩:=ZAm h2';have c3:=ZGK l vs A g3 g2 (by omega);rw[h3] at c3;have c4:=ZGM vs A g3 g2 (by omega);refine ZCv ZBx Tryz.func57 rfl rfl ?_
 -- @kinds sperner.begin
 simp only[Tryz.ntmps57,List.length_cons,List.length_nil,Nat.reduceAdd,Nat.reduceSub,List.replicate_succ,List.replicate_zero,List.cons_append,List.nil_append];((repeat' (first |  (apply ZWk (id:=9) 4;kernel_rfl;kernel_rfl;simp only[List.take_succ_cons,List.take_zero,List.drop_succ_cons,List.drop_zero])|((first|apply ZVi|apply ZVl);exact yF;dsimp only[ZC,z0,z1])|refine ZVj ?_|refine WD.nil ?_|refine ZA fun Kx hK=>?_|(refine hK _ _ ?_;clear hK)|refine ZVk ?_ |  (refine ZWF (dst:=some 4) ZFI (Zj rfl rfl) fun b4=>?_;dsimp only[ZC,z0,z1]) |  (refine ZR ZBx rfl (ZVh rfl) (ZAD (n:=2) (by decide) rfl) ?_;dsimp only[ZC,z0,z1])|((first|apply ZVi|apply ZVl);(focus ((first|(apply ZVm (c1) Tryz.call97;exact aD)|(apply ZVm (c2) Tryz.call13;exact aD)|(apply ZVm (c3) Tryz.call44;exact aD)|(apply ZVm (c4) Tryz.call46;exact aD)|(exact ZOI (ZVh rfl) (ZVh rfl))|(apply ZVy;exact ZAz;exact ZVh rfl)|((first|apply ZVo|apply ZVn|apply ZVv|apply ZVw) <;> exact oD)|(apply ZWG;exact oD;rfl)|(apply ZV3;exact oD;exact hD)|fail);all_goals infer_instance));dsimp only[ZC,z0,z1])|(apply ZG;exact oD;all_goals (intro h;try exact xD))|(apply ZO;exact oD;all_goals (intro h;try exact xD))|refine ZVr ?_|refine ZVs ?_));all_goals ((repeat clear hK);repeat clear Kx))
 all_goals try exact xO
 exact⟨trivial,⟨_,rfl,ZWR (ZWI _)⟩,_,rfl,ZWR (ZWI _)⟩
end
section
open Go.RowKit

def ZNP (vs:List Vx) (A:List Int):Bool:=decide (4096<vs.length) || (decide (vs.length≤40) && decide (A.length≤60))
theorem ZTn (vs:List Vx) (A:List Int):Fn Tryz.prog 31 [dS Lab (vs,A)] (dB (ZNP vs A)):=by
 obtain⟨o,ho⟩:∃o,ZNP vs A=o:=⟨_,rfl⟩;rw[ho];unfold ZNP at ho;refine zE Tryz.func31 19 ?_;by_cases h1:4096<vs.length
 ·have h1I:(vs.length:Int)>4096:=by omega
  rw[decide_eq_true h1,Bool.true_or] at ho;subst ho;((repeat' (first|(apply zV;exact yF;exact zQ)|refine ZVj ?_|refine ZA fun Kx hK=>?_|(refine hK _ _ ?_;clear hK)|refine ZVk ?_ |  (apply ZF;(focus (apply SYG.no;exact ZDJ rfl rfl rfl));dsimp only[ZC,z0,z1])|(apply ZF;(focus (first|exact wN|(apply ZVt;exact wY;((first|(refine ZW ZAp (ZVh rfl) ZAA rfl rfl)|exact yG|fail);all_goals infer_instance))));dsimp only[ZC,z0,z1])|((first|refine ZM rfl rfl rfl (fun h=>?_) (fun h=>?_)|refine ZL rfl rfl rfl (fun h=>?_) (fun h=>?_)|refine ZK rfl rfl rfl (fun h=>?_) (fun h=>?_)) <;> (first|(exfalso;first|omega|contradiction)|(dsimp only[z0,z1])))|refine ZVs ?_));all_goals ((repeat clear hK);repeat clear Kx))
  all_goals try exact xO
  (refine⟨trivial,_,rfl,?_⟩;exact fD)
 ·have h1I:¬ (vs.length:Int)>4096:=by omega
  rw[decide_eq_false h1,Bool.false_or] at ho;by_cases h2:vs.length≤40
  ·have h2I:(vs.length:Int)≤40:=by omega
   rw[decide_eq_true h2,Bool.true_and] at ho;subst ho;((repeat' (first|refine zS ?_|refine ZA fun Kx hK=>?_|(refine hK _ _ ?_;clear hK)|(apply ZF;(focus (first|exact wN|(apply ZVt;exact wY;((first|(refine ZW ZAp (ZVh rfl) ZAA rfl rfl)|(apply ZVy;exact ZHd;exact ZVh rfl)|exact yG|fail);all_goals infer_instance))));dsimp only[ZC,z0,z1])|((first|refine ZM rfl rfl rfl (fun h=>?_) (fun h=>?_)|refine ZL rfl rfl rfl (fun h=>?_) (fun h=>?_)|refine ZK rfl rfl rfl (fun h=>?_) (fun h=>?_)) <;> (first|(exfalso;first|omega|contradiction)|(dsimp only[z0,z1])))|refine ZVs ?_));all_goals ((repeat clear hK);repeat clear Kx))
   all_goals try exact xO
   (refine⟨trivial,_,rfl,?_⟩;refine ZWL ?_)
   by_cases h3:A.length≤60
   ·rw[decide_eq_true h3,decide_eq_true (by omega)]
   ·rw[decide_eq_false h3,decide_eq_false (by omega)]
  ·have h2I:¬ (vs.length:Int)≤40:=by omega
   rw[decide_eq_false h2,Bool.false_and] at ho;subst ho;((repeat' (first|refine zS ?_|refine ZA fun Kx hK=>?_|(refine hK _ _ ?_;clear hK)|(apply ZF;(focus (first|exact wN|(apply ZVt;exact wY;((first|(refine ZW ZAp (ZVh rfl) ZAA rfl rfl)|exact yG|fail);all_goals infer_instance))));dsimp only[ZC,z0,z1])|((first|refine ZM rfl rfl rfl (fun h=>?_) (fun h=>?_)|refine ZL rfl rfl rfl (fun h=>?_) (fun h=>?_)|refine ZK rfl rfl rfl (fun h=>?_) (fun h=>?_)) <;> (first|(exfalso;first|omega|contradiction)|(dsimp only[z0,z1])))|refine ZVs ?_));all_goals ((repeat clear hK);repeat clear Kx))
   all_goals try exact xO
   (refine⟨trivial,_,rfl,?_⟩;exact fD)
end
section
open Go.RowKit

abbrev ZFw:Rel (List Cx):=Arr Zh
theorem ZAK:ElT Tryz.prog 54 27 1 (.slice none 0 0) 24 false:=⟨Tryz.underlying54,by kernel_rfl,Tryz.isAgg27,rfl⟩
abbrev dEqS:Dat:=ZK7 Tryz.prog (fun l:Cx=>[dS Zh l,dS Zh l]) (fun _=>dB true)
theorem ZU5 (a:List Cx):Fn Tryz.prog 66 [dS ZFw a,dS ZFw a,dEqS] (dB true):=by
 refine zE Tryz.func66 32 ?_;(first|refine ZP (t:=0) rfl ZEG fun hl0=>?_|refine ZP (t:=0) rfl ZDu fun hl0=>?_|refine ZP (t:=0) rfl ZJS fun hl0=>?_);simp only[maxLen] at hl0
 (repeat' (first|refine zS ?_|refine ZA fun Kx hK=>?_|(refine hK _ _ ?_;clear hK)|(apply zV;(focus ((first|(apply ZVu;exact ZVh rfl;exact ZB0;exact ZAK.unt)|((first|apply ZVo|apply ZVn|apply ZVq|apply ZVv|apply ZVw) <;> exact oD));all_goals infer_instance));exact zQ)|(apply ZG;exact oD;all_goals (intro h;try exact xD))|refine ZVr ?_|refine ZVp ?_))
 all_goals try exact xO
 (refine ZV4 (X:=Nat) (fun k=>[(17,dI (k:Int)),(6,dA),(7,dA),(8,dA),(9,dA),(18,dA),(19,dA),(20,dA),(21,dA),(22,dA),(23,dA),(24,dA),(25,dA),(26,dA),(27,dA),(28,dA),(29,dA),(30,dA),(31,dA)]) (fun k=>[]) (fun k=>a.length-k) (fun k=>k≤a.length) 0 ?start ?frame0 ?objs0 ?round)
 case start=>exact Nat.zero_le _
 case frame0=>exact zFr
 case objs0=>rfl
 case round =>
  rintro k hk;dsimp only[ZH,z0,z1];by_cases hkl:k<a.length
  ·have hkI:(k:Int)<(a.length:Int):=by omega
   ((repeat' (first|refine zS ?_|refine ZA fun Kx hK=>?_|(refine hK _ _ ?_;clear hK)|(apply zV;(focus ((first|(exact ZV8 (R:=Zh) (_gR:=inferInstance) (k:=k) ZAK (ZVh rfl) (ZVh rfl) hkl)|(apply ZBJ (x:=a[k]);(exact ZVh rfl);exact aD)|exact yG);all_goals infer_instance));exact zQ)|(apply ZB;exact oD;all_goals (intro h;try exact xD))|(apply ZO;exact oD;all_goals (intro h;try exact xD))|refine ZVr ?_|refine ZVp ?_|refine ZVx ?_));all_goals ((repeat clear hK);repeat clear Kx))
   all_goals try exact xO
   (refine zNx (k+1) ?_;(try dsimp only))
   exact hkl
  ·have hkI:¬ (k:Int)<(a.length:Int):=by omega
   ((repeat' (first|refine zS ?_|refine ZA fun Kx hK=>?_|(refine hK _ _ ?_;clear hK)|(refine ZV0 ?_;clear hK)|(apply zV;exact yG;exact zQ)|(apply ZB;exact oD;all_goals (intro h;try exact xD))|refine ZVs ?_|refine ZV1 ?_));all_goals ((repeat clear hK);repeat clear Kx))
   all_goals try exact xO
   (refine⟨trivial,_,rfl,?_⟩;exact fD)
theorem ZKl (a:List Cx):Fn Tryz.prog 25 [dS ZFw a,dS ZFw a] (dB true):=by
 have c1:=ZU5 a;refine zE Tryz.func25 8 ?_;((repeat' (first|refine zS ?_|refine ZA fun Kx hK=>?_|(refine hK _ _ ?_;clear hK)|(apply zV;(focus ((first|(apply ZVm c1 Tryz.call66;exact ZV9 (ZVh rfl) (ZV9 (ZVh rfl) (ZV9 ⟨ZKN Tryz.call17 fun l=>ZKm l⟩ ZWJ))));all_goals infer_instance));exact zQ)|refine ZVs ?_));all_goals ((repeat clear hK);repeat clear Kx))
 all_goals try exact xO
 (refine⟨trivial,_,rfl,?_⟩;exact fD)
end
end Go.Proofs.YtofkoleingbbpaaGreatDoor
namespace Go.Proofs
section
open Go.Shelf
def Tryz.laysAI_ren:Go.Shelf.Ren:=⟨fun|176=>114|249=>144|288=>158|283=>165|284=>166|285=>167|286=>168|129=>178|317=>187|318=>188|319=>189|320=>190|337=>199|338=>200|n=>n,fun|37=>65|2=>2|3=>3|53=>207|4=>4|9=>9|171=>215|0=>0|173=>218|212=>236|51=>228|5=>5|20=>20|213=>237|46=>177|232=>249|233=>250|n=>n,fun|17=>0|18=>1|19=>2|n=>n⟩
theorem Tryz.laysAI:Go.Proofs.LaysM.n176 Tryz.prog Tryz.laysAI_ren:={
 mixed:=by kernel_rfl
 f129:=Tryz.func178.trans (congrArg some (by kernel_rfl))
 f176:=Tryz.func114.trans (congrArg some (by kernel_rfl))
 f249:=Tryz.func144.trans (congrArg some (by kernel_rfl))
 f283:=Tryz.func165.trans (congrArg some (by kernel_rfl))
 f284:=Tryz.func166.trans (congrArg some (by kernel_rfl))
 f285:=Tryz.func167.trans (congrArg some (by kernel_rfl))
 f286:=Tryz.func168.trans (congrArg some (by kernel_rfl))
 f288:=Tryz.func158.trans (congrArg some (by kernel_rfl))
 f317:=Tryz.func187.trans (congrArg some (by kernel_rfl))
 f318:=Tryz.func188.trans (congrArg some (by kernel_rfl))
 f319:=Tryz.func189.trans (congrArg some (by kernel_rfl))
 f320:=Tryz.func190.trans (congrArg some (by kernel_rfl))
 f337:=Tryz.func199.trans (congrArg some (by kernel_rfl))
 f338:=Tryz.func200.trans (congrArg some (by kernel_rfl))
 t0:=Tryz.underlying0
 a0:=Tryz.isAgg0
 z0:=Tryz.sizeOf0
 v0:=Tryz.zeroValue0
 t2:=Tryz.underlying2
 a2:=Tryz.isAgg2
 z2:=Tryz.sizeOf2
 v2:=Tryz.zeroValue2
 t3:=Tryz.underlying3
 a3:=Tryz.isAgg3
 z3:=Tryz.sizeOf3
 v3:=Tryz.zeroValue3
 t4:=Tryz.underlying4
 a4:=Tryz.isAgg4
 z4:=Tryz.sizeOf4
 v4:=Tryz.zeroValue4
 t5:=Tryz.underlying5
 a5:=Tryz.isAgg5
 z5:=Tryz.sizeOf5
 v5:=Tryz.zeroValue5
 t9:=Tryz.underlying9
 a9:=Tryz.isAgg9
 z9:=Tryz.sizeOf9
 v9:=Tryz.zeroValue9
 t20:=Tryz.underlying20
 a20:=Tryz.isAgg20
 z20:=Tryz.sizeOf20
 v20:=Tryz.zeroValue20
 t37:=Tryz.underlying65
 a37:=Tryz.isAgg65
 z37:=Tryz.sizeOf65
 v37:=Tryz.zeroValue65
 t46:=Tryz.underlying177
 a46:=Tryz.isAgg177
 z46:=Tryz.sizeOf177
 v46:=Tryz.zeroValue177
 t51:=Tryz.underlying228
 a51:=Tryz.isAgg228
 z51:=Tryz.sizeOf228
 v51:=Tryz.zeroValue228
 t53:=Tryz.underlying207
 a53:=Tryz.isAgg207
 z53:=Tryz.sizeOf207
 v53:=Tryz.zeroValue207
 t171:=Tryz.underlying215
 a171:=Tryz.isAgg215
 z171:=Tryz.sizeOf215
 v171:=Tryz.zeroValue215
 t173:=Tryz.underlying218
 a173:=Tryz.isAgg218
 z173:=Tryz.sizeOf218
 v173:=Tryz.zeroValue218
 t212:=Tryz.underlying236
 a212:=Tryz.isAgg236
 z212:=Tryz.sizeOf236
 v212:=Tryz.zeroValue236
 t213:=Tryz.underlying237
 a213:=Tryz.isAgg237
 z213:=Tryz.sizeOf237
 t232:=Tryz.underlying249
 a232:=Tryz.isAgg249
 z232:=Tryz.sizeOf249
 v232:=Tryz.zeroValue249
 t233:=Tryz.underlying250
 a233:=Tryz.isAgg250
 z233:=Tryz.sizeOf250
 v233:=Tryz.zeroValue250
 g17:=by kernel_rfl
 g18:=by kernel_rfl
 g19:=by kernel_rfl
 i0:=by kernel_rfl
 i2:=by kernel_rfl
 i3:=by kernel_rfl
 i4:=by kernel_rfl
 i5:=by kernel_rfl
 i9:=by kernel_rfl
 i20:=by kernel_rfl
 i37:=by kernel_rfl
 i46:=by kernel_rfl
 i51:=by kernel_rfl
 i53:=by kernel_rfl
 i171:=by kernel_rfl
 i173:=by kernel_rfl
 i212:=by kernel_rfl
 i232:=by kernel_rfl
 i233:=by kernel_rfl
 m17:=by kernel_rfl
 m18:=by kernel_rfl
 m19:=by kernel_rfl }
end
end Go.Proofs
namespace Go.Proofs.YtofkoleingbbpaaGreatDoor
section
open Go.Proofs Go.Shelf Go.RowKit Go.Sort Go.Lib
variable {P:Program} {ρ:Ren}
set_option maxRecDepth 100000 in
theorem ZIU (L:LaysM.n249 P ρ) (B n u:Nat) (hu:u<100) (sv:Value) (xs:List Value) (w:World) (hown:w.ownsRow B (ρ.t 5) 1 sv n xs) (hBw:B≤w.heap.size) (hlim:n+21≤140737488355328) :
  Calls P (ρ.f 249) #[sv,.int .i64 (u:Int),.int .i64 10] w fun e w'=>∃v',e = .returned v'/\w'.ownsRow B (ρ.t 5) 1 v' (n+(Lib.itoa (u:Int)).length) (xs++Lib.byteCells (Lib.itoa (u:Int)))/\Below B w w'/\Lib.OthersKept (ρ.t 5) none w w':=by
 have mixed:=L.mixed;have t5:=L.t5;have a5:=L.a5;have z5:=L.z5;have v5:=L.v5;have t37:=L.t37;have u37:=run_underlying L.t37;have a37:=L.a37;have z37:=L.z37;have v37:=L.v37;have t2:=L.t2;have a2:=L.a2;have z2:=L.z2;have v2:=L.v2;have t3:=L.t3;have a3:=L.a3;have z3:=L.z3;have v3:=L.v3;have t53:=L.t53;have a53:=L.a53;have z53:=L.z53;have v53:=L.v53;have t4:=L.t4;have a4:=L.a4;have z4:=L.z4;have v4:=L.v4;have e288:∀args w,(callFunc (ρ.f 288) args).run P w = .ok (.enter (ρ.f 288) args) w:=enters_of L.f288 (by kernel_rfl) rfl;have hneg:¬ (u:Int)<0:=by omega
 have hu64:u<18446744073709551616:=by omega
 rw[Lib.itoa_nonneg]
 go_enter L.f249,Body.n249_ntmps ρ
 go_wp2_with (go_at_fn (ρ.f 288);refine(Any.internal_strconv_AppendUint_10_small { L with } B n u hu sv xs w hown hBw (by omega)).mono ?_;rintro e w2 ⟨v2,rfl,hown2,hnx2,hok2⟩)
 go_wp2
 first|go_ret|go_ret2
 exact⟨v2,rfl,hown2,hnx2,hok2⟩
set_option maxRecDepth 100000 in
theorem ZNB (L:LaysM.n176 P ρ) (B n u:Nat) (hu:u<100) (sv:Value) (xs:List Value) (w:World) (hown:w.ownsRow B (ρ.t 5) 1 sv n xs) (hBw:B≤w.heap.size) (hlim:n+21≤140737488355328) :
  Calls P (ρ.f 176) #[sv,.int .i64 (u:Int),.int .i64 10] w fun e w'=>∃v',e = .returned v'/\w'.ownsRow B (ρ.t 5) 1 v' (n+(Lib.itoa (u:Int)).length) (xs++Lib.byteCells (Lib.itoa (u:Int)))/\Below B w w'/\Lib.OthersKept (ρ.t 5) none w w':=by
 have mixed:=L.mixed;have t5:=L.t5;have a5:=L.a5;have z5:=L.z5;have v5:=L.v5;have t37:=L.t37;have u37:=run_underlying L.t37;have a37:=L.a37;have z37:=L.z37;have v37:=L.v37;have t2:=L.t2;have a2:=L.a2;have z2:=L.z2;have v2:=L.v2;have t3:=L.t3;have a3:=L.a3;have z3:=L.z3;have v3:=L.v3;have e249:∀args w,(callFunc (ρ.f 249) args).run P w = .ok (.enter (ρ.f 249) args) w:=enters_of L.f249 (by kernel_rfl) rfl
 go_enter L.f176,Body.n176_ntmps ρ
 go_wp2_with (go_at_fn (ρ.f 249);refine(ZIU { L with } B n u hu sv xs w hown hBw hlim).mono ?_;rintro e w2 ⟨v2,rfl,hown2,hnx2,hok2⟩)
 go_wp2
 go_ret
 exact⟨v2,rfl,hown2,hnx2,hok2⟩
end
section
section
variable {s:List Vx}
def GoodS (s:List Vx):Prop:=ZAC s=0/\ZU4 s=true/\s.length≤4
theorem GoodS.len (h:GoodS s):1≤s.length:=by have:=Zi.1 h.1;omega
end
end
section
def ZKc (V:List Vx) (v:Vx):Int:=ZH2 (fun y=>decide (v=y)) 0 V
theorem ZMS {α:Type} {p:α->Bool}:∀(l:List α) (k:Nat),0≤ZH2 p k l->∃j,ZH2 p k l=((k+j:Nat):Int)/\∃h:j<l.length,p l[j]=true
 | [],k,h=>absurd h (by unfold ZH2;omega)
 | x::l,k,h=>by
  unfold ZH2 at h ⊢;by_cases hx:p x=true
  ·rw[if_pos hx];exact⟨0,by simp,by simp,by simpa using hx⟩
  ·rw[if_neg hx] at h ⊢;obtain⟨j,h1,h2,h3⟩:=ZMS l (k+1) h;exact⟨j+1,by rw[h1];congr 1;omega,by simpa using h2,by simpa using h3⟩
theorem ZSB {V:List Vx} {v:Vx} (h:0≤ZKc V v):∃j:Nat,ZKc V v=(j:Int)/\∃h:j<V.length,V[j]=v:=by
 obtain⟨j,h1,h2,h3⟩:=ZMS V 0 h;exact⟨j,by rw[Nat.zero_add] at h1;exact h1,h2,(of_decide_eq_true h3).symm⟩
def ZJx (V:List Vx) (C:Cx) (out:List Vx) (v:Vx):List Vx:=if 0≤ZKc V v then out++(C[(ZKc V v).toNat]?.getD []) else out
def ZSp (V:List Vx) (C:Cx) (s:List Vx):List Vx:=s.foldl (ZJx V C) []
def unP (V:List Vx) (C:Cx) (s:List Vx):List Vx:=if(ofV (ZSp V C s)).2≠0 then[] else(ofV (ZSp V C s)).1
theorem ZOx (V:List Vx) (C:Cx) (hc:∀c∈C,c.length≤8):∀(s out:List Vx),(s.foldl (ZJx V C) out).length≤out.length+8*s.length
 | [],out=>by simp
 | v::s,out=>by
  rw[List.foldl_cons];have h1:=ZOx V C hc s (ZJx V C out v);have h2:(ZJx V C out v).length≤out.length+8:=by
   unfold ZJx;split
   ·rw[List.length_append];have:(C[(ZKc V v).toNat]?.getD []).length≤8:=by
     cases h:C[(ZKc V v).toNat]? with
     | none=>simp
     | some c=>exact hc c (List.mem_of_getElem? h)
    omega
   ·omega
  simp only[List.length_cons];omega
def okP (c:Cx) (V:List Vx) (C:Cx) (f:List Vx):Bool:=decide ((ZEf c (unP V C f)).2=0) && (ZEf c (unP V C f)).1
def ZNy (c:Cx):List (List Vx)->Int
 | []=>0
 | s::l=>if ZAC s≠0 then ZAC s else if ZBm c s=false then 6 else ZNy c l
def ZDo (p:List Vx->Bool) (c F:Cx) (V:List Vx) (C:Cx):Int :=
 if ZBC c≠0 then ZBC c else if ZBC F≠0 then ZBC F else if ¬ (V=ZES F/\C.length=V.length) then 15 else if ZNy c C≠0 then ZNy c C else if F.all p=true then 0 else 22
theorem ZJw {c:Cx}:∀ {l:List (List Vx)},ZNy c l=0->∀s∈l,ZAC s=0/\ZBm c s=true
 | [],_,_,h=>by cases h
 | s::l,h,x,hx=>by
  unfold ZNy at h;by_cases h1:ZAC s≠0
  ·rw[if_pos h1] at h;exact absurd h h1
  rw[if_neg h1] at h;by_cases h2:ZBm c s=false
  ·rw[if_pos h2] at h;exact absurd h (by decide)
  rw[if_neg h2] at h;rcases List.mem_cons.1 hx with rfl|hx
  ·exact⟨by omega,by simpa using h2⟩
  ·exact ZJw h x hx
end
section
open Go.RowKit
section
variable {P:Program} {ops:Array Oper} {hp:List HObj} {fr:List Dat} {dst:Option Tmp} {ty:TypeId} {ps:String} {af:Array Edge} {g:Option (Nat × Bool)} {x:Operand}
theorem ZFO {i:Operand} {t e:TypeId} {z:Value} {bytes:Nat} (E:ElT P t e 1 z bytes false) {α:Type} {R:Rel α} {_gR:Good R} {xs:List α} {k:Nat} {v:α} (hk:k<xs.length) (hv:xs[k]=v) (hx:OpD fr x (dS (Arr R) xs)) (hi:OpD fr i (dI (k:Int))):SY P ops hp ⟨dst,.indexAddr t x i,ty,ps,af,g⟩ fr (dP 1 false (dS R v)):=hv ▸ ZV8 E hx hi hk
end

theorem ZMF {V:List Vx} {C:Cx} {s:List Vx} {k:Nat} (h:k<s.length):(s.take (k+1)).foldl (ZJx V C) []=ZJx V C ((s.take k).foldl (ZJx V C) []) s[k]:=by
 rw[Ze h,List.foldl_append];rfl
theorem ZQe (F:Cx) (V:List Vx) (C:Cx) (s:List Vx) (hl:C.length=V.length) (hc:∀c∈C,c.length≤8) (hs:s.length≤10):Fn Tryz.prog 93 [dS ZUt (F,V,C),dS ZI s] (dS ZI (unP V C s)):=by
 have hn:=fun k=>ZOx V C hc (s.take k) [];refine zE Tryz.func93 39 ?_;(repeat' (first|refine zS ?_|refine ZA fun Kx hK=>?_|(refine hK _ _ ?_;clear hK)|(apply zV;(focus ((first|(exact ZV3 (ZVh rfl) ZCB)|(apply ZVu;exact oD;exact nD;exact uD));all_goals infer_instance));exact zQ)|refine ZVp ?_))
 refine ZCz 77 2 (by decide) RV ?_;(refine ZV4 (X:=Nat × Value) (fun x=>[(5,dX x.2),(13,dI (x.1:Int)),(7,dA),(8,dA),(14,dA),(15,dA),(16,dA),(17,dA),(18,dA),(19,dA),(20,dA),(21,dA),(22,dA),(23,dA),(24,dA),(25,dA),(26,dA),(27,dA),(28,dA),(29,dA),(30,dA)]) (fun x=>[Zx x.2 77 2 RV ((s.take x.1).foldl (ZJx V C) [])]) (fun x=>s.length-x.1) (fun x=>x.1≤s.length) (0,.slice none 0 0) ?start ?frame0 ?objs0 ?round)
 case start=>simp
 case frame0=>exact zFr
 case objs0=>rfl
 case round =>
  rintro⟨k,u⟩ h1;dsimp only[ZH,z0,z1];simp only at h1;have hk8:=hn k;rw[List.length_take,List.length_nil] at hk8;by_cases hk:k<s.length
  ·have c1:Fn Tryz.prog 94 [dS ZI V,dS RV s[k]] (dI (ZKc V s[k])):=ZVG _ _;by_cases hp:0≤ZKc V s[k]
   ·obtain⟨j,e,hj,_⟩:=ZSB hp;have hjC:j<C.length:=by omega
    have hc8:=hc _ (List.getElem_mem hjC);have es:ZJx V C ((s.take k).foldl (ZJx V C) []) s[k]=(s.take k).foldl (ZJx V C) []++C[j]:=by
     unfold ZJx;rw[if_pos hp,e,Int.toNat_natCast,List.getElem?_eq_getElem hjC,Option.getD_some]
    rw[e] at c1;((repeat' (first|refine zS ?_|refine ZA fun Kx hK=>?_|(refine hK _ _ ?_;clear hK)|((first|apply ZWW|apply ZWX);exact eD;exact ZVh rfl;exact oD;decide;exact lD;(intro _;dsimp only[ZC,z0,z1]);all_goals (try infer_instance))|(apply ZWF;(first|exact tzV|exact tzC);(first|exact Z0 rfl|exact ZAw|exact shape_C0 rfl);(intro _;dsimp only[ZC,z0,z1]))|(apply ZR;exact tD;rfl;exact oD;exact hD;dsimp only[ZC,z0,z1])|(apply zV;(focus ((first|(exact ZW ZJK (ZVh rfl) ZFx rfl rfl)|(apply ZVm (c1) Tryz.call94;exact aD)|(refine ZFO (R:=ZI) (_gR:=inferInstance) ZB8 hjC rfl (ZVh rfl) (ZVh rfl))|exact yG);all_goals infer_instance));exact zQ)|(apply ZB;exact oD;all_goals (intro h;try exact xD))|refine ZVr ?_|refine ZVp ?_|refine ZVx ?_));all_goals ((repeat clear hK);repeat clear Kx))
    all_goals try exact xO
    (refine⟨(k+1,_) , ?_,by first|omega|(simp only;omega),by((try simp only);  (rw[ZMF hk,es])),?_⟩;rotate_left;((try dsimp only[ZH,z0,z1]);repeat (first|exact LeF.nil|refine ZD (k:=?_)));(try dsimp only))
    omega
   ·((repeat' (first|refine zS ?_|refine ZA fun Kx hK=>?_|(refine hK _ _ ?_;clear hK)|(apply ZWF;(first|exact tzV|exact tzC);(first|exact Z0 rfl|exact ZAw|exact shape_C0 rfl);(intro _;dsimp only[ZC,z0,z1]))|(apply ZR;exact tD;rfl;exact oD;exact hD;dsimp only[ZC,z0,z1])|(apply zV;(focus ((first|(exact ZW ZJK (ZVh rfl) ZFx rfl rfl)|(apply ZVm (c1) Tryz.call94;exact aD)|exact yG);all_goals infer_instance));exact zQ)|(apply ZB;exact oD;all_goals (intro h;try exact xD))|refine ZVr ?_|refine ZVp ?_|refine ZVx ?_));all_goals ((repeat clear hK);repeat clear Kx))
    all_goals try exact xO
    (refine⟨(k+1,_) , ?_,by first|omega|(simp only;omega),by((try simp only);  (rw[ZMF hk,show ZJx V C ((s.take k).foldl (ZJx V C) []) s[k]=_ from if_neg hp])),?_⟩;rotate_left;((try dsimp only[ZH,z0,z1]);repeat (first|exact LeF.nil|refine ZD (k:=?_)));(try dsimp only))
    omega
  ·(repeat' (first|refine zS ?_|refine ZA fun Kx hK=>?_|(refine hK _ _ ?_;clear hK)|(refine ZV0 ?_;clear hK)|(apply zV;(focus ((first|((first|apply ZVo|apply ZVn|apply ZVq|apply ZWA|apply ZVv) <;> exact oD));all_goals infer_instance));exact zQ)|(apply ZB;exact oD;all_goals (intro h;try exact xD))|refine ZV1 ?_))
   all_goals try exact xO
   rw[List.take_of_length_le (by omega),show s.foldl (ZJx V C) []=ZSp V C s from rfl];have hq:=hn s.length;rw[List.take_of_length_le (Nat.le_refl _),List.length_nil,show s.foldl (ZJx V C) []=ZSp V C s from rfl] at hq;refine ZIP (s:=32) rfl ?_;dsimp only[z0,z1];have c2:=of_p (ZSp V C s) (by omega);have c3:unP V C s=if(ofV (ZSp V C s)).2≠0 then[] else(ofV (ZSp V C s)).1:=rfl
   generalize ofV (ZSp V C s)=O at *;((repeat' (first|refine zS ?_|refine ZA fun Kx hK=>?_|(refine hK _ _ ?_;clear hK)|(apply zV;(focus ((first|(apply ZVm (c2) Tryz.call130;exact aD)|exact yG);all_goals infer_instance));exact zQ)|(apply ZG;exact oD;all_goals (intro h;try exact xD))|refine ZVr ?_|refine ZVs ?_|refine ZVz ?_));all_goals ((repeat clear hK);repeat clear Kx))
   ·rw[c3,if_pos (by omega)];(refine⟨trivial,_,rfl,?_⟩;exact fD)
   ·rw[c3,if_neg (by omega)];(refine⟨trivial,_,rfl,?_⟩;exact fD)
theorem okP_p (c:Cx) (V:List Vx) (C:Cx) (f:List Vx):okP c V C f=true↔(ZEf c (unP V C f)).2=0/\(ZEf c (unP V C f)).1=true:=by unfold okP;simp
theorem ZOw {c C:Cx} {k:Nat} (h:k<C.length):ZNy c (C.drop k)=if ZAC C[k]≠0 then ZAC C[k] else if ZBm c C[k]=false then 6 else ZNy c (C.drop (k+1)):=by
 rw[List.drop_eq_getElem_cons h];rfl
theorem ZNI {c:Cx} (h:ZBC c=0) (s:List Vx):ZEf c s=if ZAC s≠0 then(false,ZAC s) else(ZBm c s,0):=by
 unfold ZEf plC;rw[if_neg (show ¬ ZBC c≠0 by omega)]
theorem ZJz {p:List Vx->Bool} {c F:Cx} {V:List Vx} {C:Cx} (h1:ZBC c=0) (h2:ZBC F=0) (h3:V=ZES F/\C.length=V.length) {n:Int} (h4:ZNy c C=n) (h5:n≠0):ZDo p c F V C=n:=by
 unfold ZDo;rw[if_neg (by omega),if_neg (by omega),if_neg (not_not_intro h3),if_pos (by omega),h4]
theorem ZO3 {p:List Vx->Bool} {c F:Cx} {V:List Vx} {C:Cx} (h1:ZBC c=0) (h2:ZBC F=0) (h3:V=ZES F/\C.length=V.length) (h4:ZNy c C=0):ZDo p c F V C=if F.all p=true then 0 else 22:=by
 unfold ZDo;rw[if_neg (by omega),if_neg (by omega),if_neg (not_not_intro h3),if_neg (by omega)]
theorem ZRV {α:Type} {p:α->Bool} {l:List α} {k:Nat} (h:k<l.length):(l.drop k).all p=(p l[k] && (l.drop (k+1)).all p):=by
 rw[List.drop_eq_getElem_cons h];rfl
theorem ZTd (c F:Cx) (V:List Vx) (C:Cx) (hF:ZBC F=0->F.flatten.length≤1000) (hC:C.length≤100):Fn Tryz.prog 51 [dS Cpx c,dS ZUt (F,V,C)] (dI (ZDo (okP c V C) c F V C)):=by
 refine zE Tryz.func51 86 ?_;have c1:=ZCg c;have c2:=ZK1 F hF;by_cases h1:ZBC c≠0
 ·rw[show ZDo (okP c V C) c F V C=ZBC c from if_pos h1];((repeat' (first|refine zS ?_|refine ZA fun Kx hK=>?_|(refine hK _ _ ?_;clear hK)|((first|apply ZF|apply WD.op);(focus (first|exact wN|(apply ZVt;exact wY;((first|(exact ZV3 (ZVh rfl) ZCB)|(apply ZVm (c1) Tryz.call43;exact aD)|exact yG|fail);all_goals infer_instance))));dsimp only[ZC,z0,z1])|(apply ZG;exact oD;all_goals (intro h;try exact xD))|refine ZVs ?_|refine ZVz ?_));all_goals ((repeat clear hK);repeat clear Kx))
  all_goals try exact xO
  (refine⟨trivial,_,rfl,?_⟩;exact fD)
 have h1':ZBC c=0:=by omega
 by_cases h2:ZBC F≠0
 ·rw[show ZDo (okP c V C) c F V C=ZBC F by unfold ZDo;rw[if_neg h1,if_pos h2]];rw[show ZTF F=([],ZBC F) from if_pos h2] at c2;((repeat' (first|refine zS ?_|refine ZA fun Kx hK=>?_|(refine hK _ _ ?_;clear hK)|((first|apply ZF|apply WD.op);(focus (first|exact wN|(apply ZVt;exact wY;((first|(exact ZV3 (ZVh rfl) ZCB)|(exact ZW ZJK (ZVh rfl) ZFx rfl rfl)|(exact ZBB tyC (ZVh rfl))|(apply ZVm (c1) Tryz.call43;exact aD)|(apply ZVm (c2) Tryz.call91;exact aD)|exact yG|fail);all_goals infer_instance))));dsimp only[ZC,z0,z1])|(apply ZG;exact oD;all_goals (intro h;try exact xD))|refine ZVr ?_|refine ZVs ?_|refine ZVz ?_));all_goals ((repeat clear hK);repeat clear Kx))
  all_goals try exact xO
  (refine⟨trivial,_,rfl,?_⟩;exact fD)
 have h2':ZBC F=0:=by omega
 have hFl:F.length≤4096:=(ZAX.1 h2').1;rw[show ZTF F=(ZES F,0) from if_neg h2] at c2;have c3:=ZU6 (ZES F) V;by_cases h3:V=ZES F/\C.length=V.length
 ·rw[decide_eq_true h3.1.symm] at c3;have hsh:=(ZAX.1 h2').short;have h34:=h3.2;have h3':=h3;clear h3;(repeat' (first|refine zS ?_|refine ZA fun Kx hK=>?_|(refine hK _ _ ?_;clear hK)|((first|apply ZF|apply WD.op);(focus (first|exact wN|(apply ZVt;exact wY;((first|(exact ZV3 (ZVh rfl) ZCB)|(exact ZW ZJK (ZVh rfl) ZFx rfl rfl)|(exact ZBB tyC (ZVh rfl))|(exact ZDO (ZVh rfl))|(apply ZVm (c1) Tryz.call43;exact aD)|(apply ZVm (c2) Tryz.call91;exact aD)|(apply ZVm (c3) Tryz.call36;exact aD)|((first|apply ZVo|apply ZVn|apply ZVq|apply ZVv|apply ZVw) <;> exact oD)|(apply ZVy;exact tD;exact oD)|(apply ZVu;exact oD;exact nD;exact uD)|(apply ZZ;exact oD;(with_reducible rfl);exact oD)|(apply ZWG;exact oD;rfl)|(apply ZV3;exact oD;exact hD)|fail);all_goals infer_instance))));dsimp only[ZC,z0,z1])|(apply ZG;exact oD;all_goals (intro h;try exact xD))|refine ZVr ?_|refine ZVp ?_))
  all_goals try exact xO
  (refine ZV4 (X:=Nat) (fun k=>[(47,dI (k:Int)),(4,dA),(9,dA),(10,dA),(11,dA),(48,dA),(49,dA),(50,dA),(51,dA),(52,dA),(53,dA),(54,dA),(55,dA),(56,dA),(57,dA),(58,dA),(59,dA),(60,dA),(61,dA),(62,dA)]) (fun k=>[]) (fun k=>C.length-k) (fun k=>k≤C.length/\ZNy c C=ZNy c (C.drop k)) 0 ?start ?frame0 ?objs0 ?round)
  case start=>exact⟨Nat.zero_le _,rfl⟩
  case frame0=>exact zFr
  case objs0=>rfl
  case round =>
   rintro k ⟨k1,k2⟩;dsimp only[ZH,z0,z1];by_cases hk:k<C.length
   ·rw[ZOw hk] at k2;have c4:=ZDp c C[k];rw[ZNI h1'] at c4;by_cases q1:ZAC C[k]≠0
    ·rw[if_pos q1] at k2 c4;rw[ZJz h1' h2' h3' k2 q1];((repeat' (first|refine zS ?_|refine ZA fun Kx hK=>?_|(refine hK _ _ ?_;clear hK)|((first|apply ZF|apply WD.op);(focus (first|exact wN|(apply ZVt;exact wY;((first|(refine ZFO (R:=ZI) (_gR:=inferInstance) ZB8 hk rfl (ZVh rfl) (ZVh rfl))|(apply ZVm (c4) Tryz.call92;exact aD)|exact yG|fail);all_goals infer_instance))));dsimp only[ZC,z0,z1])|(apply ZB;exact oD;all_goals (intro h;try exact xD))|(apply ZG;exact oD;all_goals (intro h;try exact xD))|refine ZVr ?_|refine ZVs ?_|refine ZVp ?_|refine ZVz ?_|refine ZWC ?_));all_goals ((repeat clear hK);repeat clear Kx))
     all_goals try exact xO
     (refine⟨trivial,_,rfl,?_⟩;exact fD)
    ·rw[if_neg q1] at k2 c4;by_cases q2:ZBm c C[k]=true
     ·rw[if_neg (by rw[q2];decide)] at k2;rw[q2] at c4;((repeat' (first|refine zS ?_|refine ZA fun Kx hK=>?_|(refine hK _ _ ?_;clear hK)|((first|apply ZF|apply WD.op);(focus (first|exact wN|(apply ZVt;exact wY;((first|(refine ZFO (R:=ZI) (_gR:=inferInstance) ZB8 hk rfl (ZVh rfl) (ZVh rfl))|(exact ZDO (ZVh rfl))|(apply ZVm (c4) Tryz.call92;exact aD)|exact yG|fail);all_goals infer_instance))));dsimp only[ZC,z0,z1])|(apply ZQ;exact oD;(with_reducible rfl))|(apply ZB;exact oD;all_goals (intro h;try exact xD))|(apply ZG;exact oD;all_goals (intro h;try exact xD))|refine ZVr ?_|refine ZVp ?_|refine ZVx ?_));all_goals ((repeat clear hK);repeat clear Kx))
      all_goals try exact xO
      (refine zNx (k+1) ?_;(try dsimp only))
      exact⟨by omega,k2⟩
     ·have q3:ZBm c C[k]=false:=by simpa using q2
      rw[if_pos q3] at k2;rw[q3] at c4;rw[ZJz h1' h2' h3' k2 (by decide)];((repeat' (first|refine zS ?_|refine ZA fun Kx hK=>?_|(refine hK _ _ ?_;clear hK)|((first|apply ZF|apply WD.op);(focus (first|exact wN|(apply ZVt;exact wY;((first|(refine ZFO (R:=ZI) (_gR:=inferInstance) ZB8 hk rfl (ZVh rfl) (ZVh rfl))|(apply ZVm (c4) Tryz.call92;exact aD)|exact yG|fail);all_goals infer_instance))));dsimp only[ZC,z0,z1])|(apply ZB;exact oD;all_goals (intro h;try exact xD))|(apply ZG;exact oD;all_goals (intro h;try exact xD))|(apply ZO;exact oD;all_goals (intro h;try exact xD))|refine ZVr ?_|refine ZVs ?_|refine ZVp ?_|refine ZVz ?_|refine ZWC ?_));all_goals ((repeat clear hK);repeat clear Kx))
      all_goals try exact xO
      (refine⟨trivial,_,rfl,?_⟩;exact fD)
   ·rw[List.drop_of_length_le (by omega)] at k2;have hC8:∀s∈C,s.length≤8:=fun s hs=>(Zi.1 (ZJw (show ZNy c C=0 from k2) s hs).1).2.1;have hend:=ZO3 (p:=okP c V C) h1' h2' h3' k2;clear k2 c1 c2 c3;(repeat' (first|refine zS ?_|refine ZA fun Kx hK=>?_|(refine hK _ _ ?_;clear hK)|(refine ZV0 ?_;clear hK)|((first|apply ZF|apply WD.op);(focus (first|exact wN|(apply ZVt;exact wY;((first|(exact ZW ZJK (ZVh rfl) ZFx rfl rfl)|(exact ZOA strCx (Nat.le_refl 1) (ZVh rfl))|((first|apply ZVo|apply ZVn|apply ZVq|apply ZVv|apply ZVw) <;> exact oD)|(apply ZVu;exact oD;exact nD;exact uD)|fail);all_goals infer_instance))));dsimp only[ZC,z0,z1])|(apply ZB;exact oD;all_goals (intro h;try exact xD))|refine ZV1 ?_|refine ZVp ?_))
    all_goals try exact xO
    (refine ZV4 (X:=Nat) (fun j=>[(67,dI (j:Int)),(4,dA),(13,dA),(14,dA),(15,dA),(68,dA),(69,dA),(70,dA),(71,dA),(72,dA),(73,dA),(74,dA),(75,dA),(76,dA),(77,dA),(78,dA),(79,dA),(80,dA),(81,dA),(82,dA),(83,dA),(84,dA),(85,dA)]) (fun j=>[]) (fun j=>F.length-j) (fun j=>j≤F.length/\F.all (okP c V C)=(F.drop j).all (okP c V C)) 0 ?start ?frame0 ?objs0 ?round)
    case start=>exact⟨Nat.zero_le _,rfl⟩
    case frame0=>exact zFr
    case objs0=>rfl
    case round =>
     rintro j ⟨j1,j2⟩;dsimp only[ZH,z0,z1];by_cases hj:j<F.length
     ·have c5:=ZQe F V C F[j] h34 hC8 (by have:=hsh _ (List.getElem_mem hj);omega);have c6:=ZDp c (unP V C F[j]);have hok:=okP_p c V C F[j];rw[ZRV hj] at j2;generalize ZEf c (unP V C F[j])=O at *;by_cases q:okP c V C F[j]=true
      ·rw[q,Bool.true_and] at j2;obtain⟨o1,o2⟩:=hok.1 q;rw[o1,o2] at c6;((repeat' (first|refine zS ?_|refine WD.nil ?_|refine ZA fun Kx hK=>?_|(refine hK _ _ ?_;clear hK)|(apply ZWB;kernel_rfl;kernel_rfl)|((first|apply ZF|apply WD.op);(focus (first|exact wN|(apply ZVt;exact wY;((first|(refine ZFO (R:=ZI) (_gR:=inferInstance) ZB8 hj rfl (ZVh rfl) (ZVh rfl))|(apply ZVy;exact ZQy;exact ZVh rfl)|(exact ZDO (ZVh rfl))|(apply ZVm (c5) Tryz.call93;exact aD)|(apply ZVm (c6) Tryz.call92;exact aD)|exact yG|fail);all_goals infer_instance))));dsimp only[ZC,z0,z1])|((first|refine ZM rfl rfl rfl (fun h=>?_) (fun h=>?_)|refine ZL rfl rfl rfl (fun h=>?_) (fun h=>?_)|refine ZK rfl rfl rfl (fun h=>?_) (fun h=>?_)|refine Za rfl rfl rfl (fun h=>?_) (fun h=>?_)|refine ZX rfl rfl rfl (fun h=>?_) (fun h=>?_)|refine ZV rfl rfl rfl (fun h=>?_) (fun h=>?_)) <;> (first|(exfalso;first|omega|contradiction)|(dsimp only[z0,z1])))|(apply ZQ;exact oD;(with_reducible rfl))|(apply ZB;exact oD;all_goals (intro h;try exact xD))|refine ZVr ?_|refine ZVp ?_|refine ZVx ?_));all_goals ((repeat clear hK);repeat clear Kx))
       all_goals try exact xO
       (refine zNx (j+1) ?_;(try dsimp only))
       exact⟨by omega,j2⟩
      ·have q0:okP c V C F[j]=false:=by simpa using q
       rw[q0,Bool.false_and] at j2;have hE:ZDo (okP c V C) c F V C=22:=by rw[hend,if_neg (by rw[j2];decide)]
       rw[hE];have hno:=mt hok.2 q;clear hok;((repeat' (first|refine zS ?_|refine WD.nil ?_|refine ZA fun Kx hK=>?_|(refine hK _ _ ?_;clear hK)|(apply ZWB;kernel_rfl;kernel_rfl)|((first|apply ZF|apply WD.op);(focus (first|exact wN|(apply ZVt;exact wY;((first|(refine ZFO (R:=ZI) (_gR:=inferInstance) ZB8 hj rfl (ZVh rfl) (ZVh rfl))|(apply ZVy;exact ZQy;exact ZVh rfl)|(apply ZVm (c5) Tryz.call93;exact aD)|(apply ZVm (c6) Tryz.call92;exact aD)|exact yG|fail);all_goals infer_instance))));dsimp only[ZC,z0,z1])|((first|refine ZM rfl rfl rfl (fun h=>?_) (fun h=>?_)|refine ZL rfl rfl rfl (fun h=>?_) (fun h=>?_)|refine ZK rfl rfl rfl (fun h=>?_) (fun h=>?_)|refine Za rfl rfl rfl (fun h=>?_) (fun h=>?_)|refine ZX rfl rfl rfl (fun h=>?_) (fun h=>?_)|refine ZV rfl rfl rfl (fun h=>?_) (fun h=>?_)) <;> (first|(exfalso;first|omega|contradiction)|(dsimp only[z0,z1])))|(apply Zf;exact oD;(with_reducible rfl))|(apply ZB;exact oD;all_goals (intro h;try exact xD))|(apply ZO;exact oD;all_goals (intro h;try exact xD))|refine ZVr ?_|refine ZVs ?_|refine ZVp ?_|refine ZVx ?_|refine ZVz ?_|refine ZWC ?_));all_goals ((repeat clear hK);repeat clear Kx))
       all_goals first|((refine⟨trivial,_,rfl,?_⟩;exact fD);done)|(exfalso;exact hno ⟨by omega,by simp_all⟩)
     ·rw[List.drop_of_length_le (by omega)] at j2;have hE:ZDo (okP c V C) c F V C=0:=by rw[hend,if_pos (by rw[j2];rfl)]
      ((repeat' (first|refine zS ?_|refine ZA fun Kx hK=>?_|(refine hK _ _ ?_;clear hK)|(refine ZV0 ?_;clear hK)|((first|apply ZF|apply WD.op);(focus (first|exact wN|(apply ZVt;exact wY;((first|exact yG|fail);all_goals infer_instance))));dsimp only[ZC,z0,z1])|(apply ZB;exact oD;all_goals (intro h;try exact xD))|refine ZVs ?_|refine ZV1 ?_));all_goals ((repeat clear hK);repeat clear Kx))
      all_goals try exact xO
      (refine⟨trivial,_,rfl,?_⟩;refine ZWH ?_)
      exact hE.symm
 ·rw[show ZDo (okP c V C) c F V C=15 by unfold ZDo;rw[if_neg h1,if_neg h2,if_pos h3]];((repeat' (first|refine zS ?_|refine ZA fun Kx hK=>?_|(refine hK _ _ ?_;clear hK)|((first|apply ZF|apply WD.op);(focus (first|exact wN|(apply ZVt;exact wY;((first|(exact ZV3 (ZVh rfl) ZCB)|(exact ZW ZJK (ZVh rfl) ZFx rfl rfl)|(exact ZBB tyC (ZVh rfl))|(apply ZVm (c1) Tryz.call43;exact aD)|(apply ZVm (c2) Tryz.call91;exact aD)|(apply ZVm (c3) Tryz.call36;exact aD)|exact yG|fail);all_goals infer_instance))));dsimp only[ZC,z0,z1])|((first|refine ZM rfl rfl rfl (fun h=>?_) (fun h=>?_)|refine ZL rfl rfl rfl (fun h=>?_) (fun h=>?_)|refine ZK rfl rfl rfl (fun h=>?_) (fun h=>?_)|refine Za rfl rfl rfl (fun h=>?_) (fun h=>?_)|refine ZX rfl rfl rfl (fun h=>?_) (fun h=>?_)|refine ZV rfl rfl rfl (fun h=>?_) (fun h=>?_)) <;> (first|(exfalso;first|omega|contradiction)|(dsimp only[z0,z1])))|(apply Zf;exact oD;(with_reducible rfl))|(apply ZG;exact oD;all_goals (intro h;try exact xD))|refine ZVr ?_|refine ZVs ?_|refine ZVp ?_|refine ZVz ?_));all_goals (first|refine WC.id ?_|((repeat clear hK);(repeat clear Kx))))
  all_goals first|((refine⟨trivial,_,rfl,?_⟩;exact fD);done)|(exfalso;exact h3 ⟨Eq.symm (by assumption),by omega⟩)
theorem ZTe (c F:Cx) (V:List Vx) (C:Cx) (hF:F.length≤100) (hC:C.length≤100):Fn Tryz.prog 51 [dS Cpx c,dS ZUt (F,V,C)] (dI (ZDo (okP c V C) c F V C)):=ZTd c F V C (fun h0=>by have:=ZIg (ZAX.1 h0).short;omega) hC
end
section
open Go.RowKit
def tabN:String := "internal/strconv.uint64pow10"
def LaidIn (P:Nat->Prop) (w:World):Prop:=∃g,Tryz.prog.globalNamed tabN=some g/\P g/\Lib.TabIs Tryz.prog w tabN .u64 Lib.pow10Tab
theorem ZCN {P P':Nat->Prop} {w:World} (h:LaidIn P w) (q:∀k,P k->P' k):LaidIn P' w:=let ⟨g,h1,h2,h3⟩:=h;⟨g,h1,q g h2,h3⟩
theorem ZTC {g:Nat} {w:World} (h1:Tryz.prog.globalNamed tabN=some g) (h:Lib.TabIs Tryz.prog w tabN .u64 Lib.pow10Tab):g<w.heap.size:=by
 unfold Lib.TabIs World.var? at h;rw[h1,Option.bind_some] at h;rcases Nat.lt_or_ge g w.heap.size with q|q
 ·exact q
 ·rw[Array.getElem?_eq_none q] at h;cases h
theorem ZDt {P:Nat->Prop} {w w':World} (h:LaidIn P w) (q:∀k,P k->k<w.heap.size->w'.heap[k]?=w.heap[k]?):LaidIn P w':=by
 obtain⟨g,h1,h2,h3⟩:=h;refine⟨g,h1,h2,?_⟩;have e:=q g h2 (ZTC h1 h3);unfold Lib.TabIs World.var? at h3 ⊢;rw[h1,Option.bind_some] at h3 ⊢;rw[e];exact h3
theorem ZEF {P:Nat->Prop} {w:World} (h:LaidIn P w):LaidIn (fun k=>P k/\k<w.heap.size) w:=let ⟨g,h1,h2,h3⟩:=h;⟨g,h1,⟨h2,ZTC h1 h3⟩,h3⟩
def RLS (S:Prop) {α:Type} (R:Rel α):Rel α:=fun P w v x=>R P w v x/\(LaidIn P w\/S)
instance {S:Prop} {α:Type} (R:Rel α) [Good R]:Good (RLS S R) where
 weak:=fun h q=>⟨Good.weak h.1 q,h.2.imp_left fun k=>ZCN k q⟩
 move:=fun h q=>⟨Good.move h.1 q,h.2.imp_left fun k=>ZDt k q⟩
 bound:=fun h=>⟨Good.bound h.1,h.2.imp_left fun k=>ZEF k⟩
abbrev ZCy (S:Prop):Rel (List Vx):=ArrK 2 (RLS S RV)
abbrev ZA5 (S:Prop):Rel (List (List Vx)):=Arr (ZCy S)
abbrev ZSj (S:Prop):Rel (List (List Vx)):=R1 (ZA5 S)
variable {S:Prop}
theorem ZJr {α:Type} {n:Nat} {R S:Rel α} (h:∀P w v x,R P w v x->S P w v x) {P:Nat->Prop} {w:World} {v:Value} {xs:List α} (k:ArrK n R P w v xs):ArrK n S P w v xs:=by
 obtain⟨a,cap,hv,h1,h2,h0,h3⟩:=k;refine⟨a,cap,hv,h1,h2,h0,fun k hk=>?_⟩;obtain⟨u,b,off,r1,r⟩:=h3 k hk;exact⟨u,b,off,h _ _ _ _ r1,r⟩
theorem ZMC {α:Type} {R S:Rel α} (h:∀P w v x,R P w v x->S P w v x) {P:Nat->Prop} {w:World} {v:Value} {xs:List α} (k:Arr R P w v xs):Arr S P w v xs:=by
 obtain⟨a,cap,hv,h1,h2,h3⟩:=k;refine⟨a,cap,hv,h1,h2,fun k hk=>?_⟩;obtain⟨u,b,off,r1,r⟩:=h3 k hk;exact⟨u,b,off,h _ _ _ _ r1,r⟩
theorem ZNX {s:List Vx}:(dS (ZCy S) s).le (dS ZI s):=fun _ _ _ h=>ZJr (fun _ _ _ _ q=>q.1) h
theorem vl_v {P:Nat->Prop} {w:World} {v:Value} {s:List Vx} (h:ZCy S P w v s):ZI P w v s:=ZJr (fun _ _ _ _ q=>q.1) h
theorem ZCW {l:Cx}:(dS (ZSj S) l).le (dS Cpx l):=fun _ _ _ h=>by
 obtain⟨u,h1,h2,h3⟩:=h;exact⟨u,h1,h2,ZMC (R:=ZCy S) (S:=ZI) (fun _ _ _ _ q=>vl_v q) h3⟩
theorem ZMV {s:List Vx} (hs:s≠[]) {P:Nat->Prop} {w:World} {v:Value} (h:(dS (ZCy S) s).rd P w v):LaidIn P w\/S:=by
 obtain⟨a,cap,hv,h1,h2,h0,h3⟩:=(h:ZCy S P w v s);obtain⟨u,b,off,r1,_⟩:=h3 0 (List.length_pos_iff.2 hs);exact r1.2
theorem ZSw {s:List Vx} {P:Nat->Prop} {w:World} {v:Value} (h:(dS ZI s).rd P w v) (q:LaidIn P w\/S):(dS (ZCy S) s).rd P w v:=by
 obtain⟨a,cap,hv,h1,h2,h0,h3⟩:=(h:ZI P w v s);refine⟨a,cap,hv,h1,h2,h0,fun k hk=>?_⟩;obtain⟨u,b,off,r1,r⟩:=h3 k hk;exact⟨u,b,off,⟨r1,q⟩,r⟩
theorem ZFn {l:Cx} (q:S):(dS Cpx l).le (dS (ZSj S) l):=fun _ _ _ h=>by
 obtain⟨u,h1,h2,h3⟩:=h;exact⟨u,h1,h2,ZMC (R:=ZI) (S:=ZCy S) (fun _ _ _ _ k=>ZSw k (.inr q)) h3⟩

theorem ZPJ:∀(k u:Nat),u<10 ^ (k+1)->(Lib.decDigits u).length≤k+1
 | 0,u,h=>by rw[Lib.decDigits_one (by omega)];simp
 | k+1,u,h=>by
  by_cases h1:u<10
  ·rw[Lib.decDigits_one h1];simp
  ·rw[Lib.decDigits,dif_neg h1,List.length_append];have:=ZPJ k (u / 10) (by rw[Nat.pow_succ] at h;omega);simp only[List.length_cons,List.length_nil];omega
theorem ZE0 (n:Int) (h:0≤n/\n≤1048576):(Lib.itoa n).length≤21:=by
 obtain⟨m,rfl⟩:=Int.eq_ofNat_of_zero_le h.1;rw[Lib.itoa_nonneg];have:=ZPJ 20 m (by omega);omega
def okL (v:Vx):Prop:=(0≤v.1/\v.1≤1048576)/\0≤v.2/\v.2≤1048576
theorem ZSX {v:Vx} (h:okL v):(txV v).length≤100:=by
 have e0:=ZE0 v.1 h.1;have e1:=ZE0 v.2 h.2;unfold txV;simp only[List.length_append,List.length_cons,List.length_nil];omega
theorem ZJL:∀ {s:List Vx},(∀v∈s,okL v)->(txS s).length≤100*s.length
 | [],_=>by simp[txS]
 | v::s,h=>by
  have h1:=ZSX (h v (by simp));have h2:=ZJL (s:=s) fun u hu=>h u (by simp[hu]);have:txS (v::s)=txV v++txS s:=rfl;rw[this,List.length_append,List.length_cons];omega
end
end Go.Proofs.YtofkoleingbbpaaGreatDoor
