/- Part 42: walks by contracts, and plain laws. -/
import Derived.Test.YtofkoleingbbpaaGreatDoorXa41
set_option linter.unusedVariables false
set_option linter.unusedSimpArgs false
set_option linter.unusedSectionVars false
set_option maxRecDepth 100000
set_option maxHeartbeats 64000000
namespace Go.Proofs.YtofkoleingbbpaaGreatDoor
section
open Go.RowKit
theorem ZQ7 {ops:Array Oper} {hp:List HObj} {fr:List Dat} {dst:Option Tmp} {ty:TypeId} {ps:String} {af:Array Edge} {g:Option (Nat × Bool)} {x y:Operand} {vs:List Vx} {xs:Cx} (hx:OpD fr x (dS ZM vs)) (hy:OpD fr y (dS Zh xs)):SY Tryz.prog ops hp ⟨dst,.build 46 #[(1,x),(2,y)],ty,ps,af,g⟩ fr (ZEP [dX (.slice none 0 0),dS ZM vs,dS Zh xs]):=SY.val fun {I w a} ho=>by
 have h3:ArrK 2 RV I w (a.eval x) vs:=hx.get (by simp[Op.operands]) ho;have h2:Arr ZM I w (a.eval y) xs:=hy.get (by simp[Op.operands]) ho;have h2':=h2;obtain⟨ad,c,hv,_⟩:=h2';have h3':=h3;obtain⟨ad2,c2,hv2,_⟩:=h3';have hm:∀ad n c ad2 n2 c2 w,(Instr.build 46 #[(1,.slice ad2 n2 c2),(2,.slice ad n c)]).run Tryz.prog w = .ok (.agg #[.slice none 0 0,.slice ad2 n2 c2,.slice ad n c]) w:=by intro ad n c ad2 n2 c2 w;go_simp
 refine⟨.agg #[.slice none 0 0,.slice ad2 vs.length c2,.slice ad xs.length c],?_,[_,_,_],rfl,rfl,by simp[Value.oneCell'],fun k c d hc hd=>?_⟩
 ·unfold execOp;simp only[List.map_toArray,List.map_cons,List.map_nil,hv,hv2,Sem.run_bind,hm,Result.andThen_ok,Sem.run_pure]
 ·match k,hc,hd with
  | 0,hc,hd=>cases hc;cases hd;rfl
  | 1,hc,hd=>cases hc;cases hd;rw[hv2] at h3;exact h3
  | 2,hc,hd=>cases hc;cases hd;rw[hv] at h2;exact h2
section
variable {P:Program} {ops:Array Oper} {hp:List HObj} {fr:List Dat} {Q:Z5} {rest:List Oper} {T:TypeId} {b:Nat}
theorem ZM3 {zs:List Value} (hn:0<zs.length) (h1:∀c∈zs,c.oneCell'=true) (h:WL P ops Q rest fr (ZAX b T (zs.map dX)::hp)):WL P ops Q rest fr (Zm b T zs.length true (dX (.agg zs.toArray))::hp):=WL.of fun P0 B w0 w a hh hf=>by
 obtain⟨cs,u,c1,c2,c0,c3,c4,c5⟩:=hh.ok (Zm b T zs.length true (dX (.agg zs.toArray))) (by simp);have hu:u = .agg zs.toArray:=c5;simp only[if_true] at c4;rw[hu] at c4;have hcs:zs=cs:=by injection c4 with c4;exact List.toArray_inj c4
 subst hcs;have hgr:w.grownBy w (Zm b T zs.length true (dX (.agg zs.toArray))).blk:=⟨rfl,rfl,rfl,Nat.le_refl _,fun _ _ _=>rfl⟩;have hok:(ZAX b T (zs.map dX)).ok (fun k=>Imm P0 B (Zm b T zs.length true (dX (.agg zs.toArray))::hp) k/\k<w.heap.size) w :=
  ⟨zs,c1,by simp,h1,fun k c d hc hd=>by
   rw[List.getElem?_map,hc] at hd;cases hd;rfl⟩
 exact h.on (hh.write hgr (.inl rfl) hok) (hf.mono fun _ _ hd=>Ze (o':=ZAX b T (zs.map dX)) hgr (.inl rfl) hd)
end
theorem ZNf {P:Program} {fn:Func} {t t2:Tmp} {T:TypeId} {n:Nat} {agg:Bool} (T':TyI P T n agg) (hr:fn.results=#[.tmp t2,.cell t T]) {I:Nat->Prop} {w:World} {tmps:Array Value} {b off:Nat} {u:Value} (hp:tmps.getD t undef = .pointer (some ⟨b,off,none⟩)) (h:Cells I w b off n agg u):(results fn tmps).run P w = .ok (.tuple #[tmps.getD t2 undef,u]) w:=by
 have h1:=ZD0 T' h;have hp':tmps[t]?.getD undef = .pointer (some ⟨b,off,none⟩):=by simpa using hp
 simp[results,hr,hp',asAddr,h1]
theorem ZMt {P:Program} {f:FuncId} {fn:Func} {c:Code} {args:List Dat} {r s:Dat} {t t2:Tmp} {T:TypeId} {n:Nat} {agg:Bool} (T':TyI P T n agg) (hf:P.funcs[f]?=some fn) (hb:fn.body=some c) (hr:fn.results=#[.tmp t2,.cell t T])
  (h:WC P (ZU7 t t2 n agg r s) c (args++List.replicate (fn.ntmps-args.length) (dX undef)) []):Fn P f args (dT [s,r]) :=
 ZB6 hf hb (fun e fr hp q=>by
  obtain⟨he,⟨d,hd,hfin⟩,d',hd',hfin'⟩:=q;refine⟨by cases e <;> simp_all,fun {P0 B w0 w a} hh hf'=>?_⟩;obtain⟨b,off,u,h1,h2,h3⟩:=hf'.rd t _ hd;refine⟨_,ZNf T' hr h1 h2,[a.tmps.getD t2 undef,u],rfl,rfl,fun i e x he hx=>?_⟩
  match i,he,hx with
  | 0,he,hx=>cases he;cases hx;exact hfin'.out hh (hf'.rd t2 d' hd')
  | 1,he,hx=>cases he;cases hx;exact hfin.out hh h3) h
abbrev eB:List Vx:=[(0,0),(1,0)]
abbrev eV:List Vx:=[(0,1),(0,3),(1,2),(1,3)]
abbrev eF:Cx:=[[(0,1),(1,3)],[(0,3),(1,2)],[(0,3),(1,3)]]
abbrev eC:Cx:=[[(0,0)],[(0,0),(1,0)],[(1,0)],[(0,0),(1,0)]]

theorem ZRk:Fn Tryz.prog 33 [] (dT [dS ZM eB,dS ZUs (eF,eV,eC)]):=by
 refine ZMt ZQw Tryz.func33 rfl rfl ?_;show WC _ _ _ (List.replicate 48 (dX undef)) [];simp only[List.replicate_succ,List.replicate_zero];((repeat' (first |  (refine WC.drawM (fun _=>True) 10 1 [(0,false),(1,false),(2,false),(3,false),(4,false),(5,false),(6,false),(7,false),(8,false),(9,true)] [true,true,true,true,true,true,true,true,true,true,false] (by kernel_rfl) (by kernel_rfl) (by kernel_rfl) rfl (trivial) ?_) |  (first|refine WA.one (S:=[true,true,true,true,true,true,true,true,true,true,false]) (i:=10) (by kernel_rfl) rfl ?_|refine WA.nil (S:=[true,true,true,true,true,true,true,true,true,true,true]) (by kernel_rfl) ?_) |  (refine WC.drawM (fun _=>True) 24 1 [(0,false),(1,false),(2,false),(3,false),(4,false),(5,false),(6,false),(7,false),(8,false),(9,false),(10,false),(11,false),(12,false),(13,false),(14,false),(15,false),(16,false),(17,false),(18,false),(19,false),(20,false),(21,false),(22,false),(23,false)] [true,true,true,true,true,true,true,true,true,true,true,true,true,true,true,true,true,true,true,true,true,true,true,true,false] (by kernel_rfl) (by kernel_rfl) (by kernel_rfl) rfl (trivial) ?_) |  (first|refine WA.one (S:=[true,true,true,true,true,true,true,true,true,true,true,true,true,true,true,true,true,true,true,true,true,true,true,true,false]) (i:=24) (by kernel_rfl) rfl ?_|refine WA.nil (S:=[true,true,true,true,true,true,true,true,true,true,true,true,true,true,true,true,true,true,true,true,true,true,true,true,true]) (by kernel_rfl) ?_) |  (refine WC.drawM (fun hp'=>ZAX b4 46 [dS Zh eF,dS ZM eV,dS Zh eC]∈hp') 3 1 [(0,false),(1,false),(2,false)] [true,true,true,false] (by kernel_rfl) (by kernel_rfl) (by kernel_rfl) rfl (.head _) ?_) |  (first|refine WA.one (S:=[true,true,true,false]) (i:=3) (by kernel_rfl) rfl ?_|refine WA.nil (S:=[true,true,true,true]) (by kernel_rfl) ?_) |  (refine ZBX rfl (SW.alloc tzSb (ZJF rfl rfl rfl)) (fun _=>trivial) fun b4=>?_;dsimp only[ZC,z0,z1])|(refine WM.nil ?_)|(apply WM.readL rfl;(focus (intro c hcc;apply SYG.yes;(exact Za rfl);((first|(exact ZQ7 (OpD.t rfl) (OpD.t rfl))|(exact ZL3 (R:=RV) (_gR:=inferInstance) elV (OpD.t rfl) OpD.i 1 rfl (by decide))|(exact ZGB (R:=RV) (_gR:=inferInstance) elV (OpD.t rfl) OpD.i 1 rfl (by decide))|(exact ZBK (R:=RV) (_gR:=inferInstance) (xs:=eV) (k:=0) (v:=(0,1)) elV (by decide) rfl (OpD.t rfl) OpD.i)|(exact ZBK (R:=RV) (_gR:=inferInstance) (xs:=eV) (k:=1) (v:=(0,3)) elV (by decide) rfl (OpD.t rfl) OpD.i)|(exact ZBK (R:=RV) (_gR:=inferInstance) (xs:=eV) (k:=2) (v:=(1,2)) elV (by decide) rfl (OpD.t rfl) OpD.i)|(exact ZBK (R:=RV) (_gR:=inferInstance) (xs:=eV) (k:=3) (v:=(1,3)) elV (by decide) rfl (OpD.t rfl) OpD.i)|(refine ZAo ZJK (OpD.t rfl) (by decide))|(apply ZTN ZNx;exact OpD.t rfl)|(refine ZDN ZQw (OpD.t rfl) hcc (by decide) rfl)|((first|apply SY.move|apply SY.assign) <;> (exact oD))|(apply SY.load;(exact tD);(exact oD))|(apply SY.buildE;(exact eD);((try simp only[List.map_cons,List.map_nil]);(repeat (first|exact Zp|(apply Zo;(first|exact OpD.t rfl|exact OpD.i|exact OpD.b|exact OpD.tle rfl (by first|exact ZN|exact ZH (by decide))|exact⟨ZN⟩|exact⟨ZH (by decide)⟩)))));rfl;rfl;decide;(intro _;exact ZAj);(exact(by simp)))|(apply SY.build1';(exact eD);((try simp only[List.map_cons,List.map_nil]);(repeat (first|exact Zp|(apply Zo;(first|exact OpD.t rfl|exact OpD.i|exact OpD.b|exact OpD.tle rfl (by first|exact ZN|exact ZH (by decide))|exact⟨ZN⟩|exact⟨ZH (by decide)⟩)))));rfl;rfl;(intro _;first|exact ZAf|exact ZAT|exact ZAI|exact shape_B);(exact(by simp)))|fail);all_goals infer_instance)));dsimp only[ZC,z0,z1])|((first|apply WL.opN|apply WD.opN);exact yF;dsimp only[ZC,z0,z1])|refine WL.nil ?_|refine ZA fun Kx hK=>?_|(refine hK _ _ ?_;clear hK)|refine WC.region ?_ |  (refine WL.alloc (dst:=some 1) tzSb (ZJF rfl rfl rfl) fun b1=>?_;dsimp only[ZC,z0,z1]) |  (refine ZM3 (zs:=[.slice none 0 0,.slice none 0 0,.slice none 0 0]) (by decide) (by simp[Value.oneCell']) (ZBr ZQw (OpD.t rfl) (OpD.t rfl) rfl rfl ?_);dsimp only[ZC,z0,z1]) |  (refine WL.storeS (k:=0) ZQv (OpD.t rfl) (OpD.t rfl) ZAI (by decide) ?_;dsimp only[ZC,z0,z1]) |  (refine WL.perm (List.Perm.swap _ _ _) (ZP ZQw rfl (OpD.t rfl) (ZAD (n:=3) (by decide) rfl) ?_);dsimp only[ZC,z0,z1])|((first|apply WL.opN|apply WD.opN);(focus ((first|(first|(apply SY.fld0 vxT <;> (exact oD))|(apply SY.fld1 vxT <;> (exact oD))|(apply ZTR vxT <;> (exact oD))|(apply SY.mkV1 vxT <;> (exact oD))|(apply ZUq vxT <;> (exact oD)))|(apply SY.buildE;(exact eD);((try simp only[List.map_cons,List.map_nil]);(repeat (first|exact Zp|(apply Zo;(first|exact OpD.t rfl|exact OpD.i|exact OpD.b|exact OpD.tle rfl (by first|exact ZN|exact ZH (by decide))|exact⟨ZN⟩|exact⟨ZH (by decide)⟩)))));rfl;rfl;decide;(intro _;exact ZAj);(exact(by simp)))|fail);all_goals infer_instance));dsimp only[ZC,z0,z1])|refine WC.ret ?_));all_goals (first|((repeat clear hK);(repeat clear Kx))))
 all_goals try (exfalso;first|contradiction|omega)
 exact⟨trivial,⟨_,rfl,FinD.le ZUv⟩,_,rfl,FinD.le (Dat.le_refl _)⟩
end
section
open Go.RowKit

theorem two9D:∀k:Fin 9,ZRs 1 (k.val:Int)=((2 ^ k.val:Nat):Int):=by decide +kernel
def ZKS (base c:List Vx):Nat->Int
 | 0=>0
 | k+1=>if base.getD k (0,0)∈c then ior (ZKS base c k) ((2 ^ k:Nat):Int) else ZKS base c k
abbrev ZIt (base c:List Vx):Int:=ZKS base c base.length
theorem ZRx {base c:List Vx} {k:Nat} (h:k<base.length):ZKS base c (k+1)=if base[k]∈c then ior (ZKS base c k) ((2 ^ k:Nat):Int) else ZKS base c k:=by
 show(if base.getD k (0,0)∈c then _ else _)=_;rw[show base.getD k (0,0)=base[k] by simp[List.getD_eq_getElem?_getD,h]]
def ZVX (F:Cx) (V:List Vx) (C:Cx) (base:List Vx):(List Vx × List Int) × Int :=
 if ZAC base≠0 then(([],[]),ZAC base) else if ZDo (okP [base] V C) [base] F V C≠0 then(([],[]),ZDo (okP [base] V C) [base] F V C) else((V,C.map (ZIt base)),0)
theorem ZVK (w:World):(Instr.build 25 #[]).run Tryz.prog w = .ok (.agg #[.slice none 0 0,.slice none 0 0]) w:=by go_simp
theorem ZL1 {ops:Array Oper} {hp:List HObj} {fr:List Dat} {dst:Option Tmp} {ty:TypeId} {ps:String} {af:Array Edge} {g:Option (Nat × Bool)}:SY Tryz.prog ops hp ⟨dst,.build 25 #[],ty,ps,af,g⟩ fr (dX (.agg #[.slice none 0 0,.slice none 0 0])):=SY.val fun {I w a} ho=>by
 refine⟨_,?_,rfl⟩;unfold execOp;simp only[List.map_toArray,List.map_nil,Sem.run_bind,ZVK,Result.andThen_ok,Sem.run_pure]
theorem ZS0:(dX (.agg #[.slice none 0 0,.slice none 0 0])).le (dS Lab (([]:List Vx),([]:List Int))):=fun _ _ _ h=>by
 cases (h:_=_);exact⟨_,_,rfl,rfl,rfl,ZGZ (by decide),ZB5⟩
theorem ZLm (F:Cx) (V:List Vx) (C:Cx) (base:List Vx) (hF:F.length≤100) (hC:C.length≤100) (hV:V.length≤1000):Fn Tryz.prog 20 [dS ZUs (F,V,C),dS ZM base] (dT [dS Lab (ZVX F V C base).1,dI (ZVX F V C base).2]):=by
 have c1:=ZND base;have c2:=ZTe [base] F V C hF hC;obtain⟨R,hR⟩:∃R,ZVX F V C base=R:=⟨_,rfl⟩;rw[hR];unfold ZVX at hR;refine ZCu ZAz Tryz.func20 rfl rfl ?_
 -- @kinds sperner.Sperner
 simp only[Tryz.ntmps20,List.length_cons,List.length_nil,Nat.reduceAdd,Nat.reduceSub,List.replicate_succ,List.replicate_zero,List.cons_append,List.nil_append];by_cases h1:ZAC base≠0
 ·rw[if_pos h1] at hR;subst hR;((repeat' (first|(apply WL.opN;exact yF;dsimp only[ZC,z0,z1])|refine WL.nil ?_|refine ZA fun Kx hK=>?_|(refine hK _ _ ?_;clear hK)|refine WC.region ?_ |  (refine WL.alloc (dst:=some 4) ZTD (ZBd rfl rfl) fun b4=>?_;dsimp only[ZC,z0,z1]) |  (refine ZP ZAz rfl (OpD.t rfl) (ZBd rfl rfl) ?_;dsimp only[ZC,z0,z1])|(apply WL.opN;(focus ((first|(exact SY.box (OpD.t rfl) ZCC)|(apply SY.call (c1) Tryz.call39;(exact aD))|(exact ZL1)|((first|apply SY.move|apply SY.assign|apply SY.lss|apply SY.neq|apply SY.or) <;> (exact oD))|fail);all_goals infer_instance));dsimp only[ZC,z0,z1])|(apply ZG;(exact oD);all_goals (intro h;try exact xD))|refine WC.ret ?_|refine ThenD.r ?_));all_goals (first|((repeat clear hK);(repeat clear Kx))))
  all_goals try (exfalso;first|contradiction|omega)
  exact⟨trivial,⟨_,rfl,FinD.le ZS0⟩,_,rfl,FinD.le (Dat.le_refl _)⟩
 rw[if_neg h1] at hR;have h1':ZAC base=0:=Classical.byContradiction h1;rw[h1'] at c1;by_cases h2:ZDo (okP [base] V C) [base] F V C≠0
 ·rw[if_pos h2] at hR;subst hR;((repeat' (first|(apply WL.opN;exact yF;dsimp only[ZC,z0,z1])|refine WL.nil ?_|refine ZA fun Kx hK=>?_|(refine hK _ _ ?_;clear hK)|refine WC.region ?_ |  (refine WL.alloc (dst:=some 4) ZTD (ZBd rfl rfl) fun b4=>?_;dsimp only[ZC,z0,z1]) |  (refine ZP ZAz rfl (OpD.t rfl) (ZBd rfl rfl) ?_;dsimp only[ZC,z0,z1])|(apply WL.opN;(focus ((first|(exact SY.box (OpD.t rfl) ZCC)|(apply SY.call (c1) Tryz.call39;(exact aD))|(apply SY.call (c2) Tryz.call51;(exact aD))|(exact ZL1)|(apply SY.load;exact ZQw;exact OpD.t rfl)|((first|apply SY.move|apply SY.assign|apply SY.lss|apply SY.neq|apply SY.or) <;> (exact oD))|(apply ZSj ZNx;exact OpD.t rfl)|(apply SY.build1';(exact eD);((try simp only[List.map_cons,List.map_nil]);(repeat (first|exact Zp|(apply Zo;(first|exact OpD.t rfl|exact OpD.i|exact OpD.b|exact OpD.tle rfl (by first|exact ZN|exact ZH (by decide))|exact⟨ZN⟩|exact⟨ZH (by decide)⟩)))));rfl;rfl;(intro _;first|exact ZAf|exact ZAT|exact ZAI|exact shape_B);(exact(by simp)))|fail);all_goals infer_instance));dsimp only[ZC,z0,z1])|(apply ZG;(exact oD);all_goals (intro h;try exact xD))|refine WC.skip ?_|refine WC.ret ?_|refine ThenD.r ?_));all_goals (first|((repeat clear hK);(repeat clear Kx))))
  all_goals try (exfalso;first|contradiction|omega)
  exact⟨trivial,⟨_,rfl,FinD.le ZS0⟩,_,rfl,FinD.le (Dat.le_refl _)⟩
 rw[if_neg h2] at hR;have h2':ZDo (okP [base] V C) [base] F V C=0:=Classical.byContradiction h2;rw[h2'] at c2;subst hR;have h8:base.length≤8:=(Zi.1 h1').2.1;have cCl:=ZIZ V hV;(repeat' (first|(apply WL.opN;exact yF;dsimp only[ZC,z0,z1])|refine WL.nil ?_|refine ZA fun Kx hK=>?_|(refine hK _ _ ?_;clear hK)|refine WC.region ?_ |  (refine WL.alloc (dst:=some 4) ZTD (ZBd rfl rfl) fun b4=>?_;dsimp only[ZC,z0,z1]) |  (refine ZCz (dst:=some 8) (zs:=[.slice none 0 0,.slice none 0 0]) ZTD (by decide) (by simp[Value.oneCell']) fun b8=>?_;dsimp only[ZC,z0,z1,List.map_cons,List.map_nil]) |  (refine ZBr ZAz (OpD.t rfl) (OpD.t rfl) rfl rfl ?_;dsimp only[ZC,z0,z1])|(apply WL.opN;(focus ((first|(exact SY.box (OpD.t rfl) ZCC)|(apply SY.call (c1) Tryz.call39;(exact aD))|(apply SY.call (c2) Tryz.call51;(exact aD))|(apply SY.load;exact ZQw;exact OpD.t rfl)|(refine ZV ZJK (OpD.t rfl) ZFx rfl rfl)|(apply SY.call (cCl) Tryz.call47;(exact aD))|(exact ZTP (OpD.t rfl))|((first|apply SY.move|apply SY.assign|apply SY.lss|apply SY.neq|apply SY.or) <;> (exact oD))|(apply SY.len;(exact oD);(exact nD);(exact uD))|(apply ZSj ZNx;exact OpD.t rfl)|(apply SY.build1';(exact eD);((try simp only[List.map_cons,List.map_nil]);(repeat (first|exact Zp|(apply Zo;(first|exact OpD.t rfl|exact OpD.i|exact OpD.b|exact OpD.tle rfl (by first|exact ZN|exact ZH (by decide))|exact⟨ZN⟩|exact⟨ZH (by decide)⟩)))));rfl;rfl;(intro _;first|exact ZAf|exact ZAT|exact ZAI|exact shape_B);(exact(by simp)))|fail);all_goals infer_instance));dsimp only[ZC,z0,z1])|(apply ZG;(exact oD);all_goals (intro h;try exact xD))|refine WC.skip ?_|refine WC.block ?_))
 all_goals try (exfalso;first|contradiction|omega)
 refine Zq 3 RI ?_;(refine WC.loopU (X:=Nat × Value) (fun x=>[(36,dI (x.1:Int)),(10,dA),(11,dA),(12,dA),(13,dA),(37,dA),(38,dA),(39,dA),(40,dA),(41,dA),(42,dA),(43,dA),(44,dA),(45,dA),(46,dA),(47,dA),(48,dA),(49,dA),(50,dA),(51,dA),(52,dA),(53,dA),(54,dA),(55,dA),(56,dA),(57,dA),(58,dA),(59,dA),(60,dA),(61,dA)]) (fun x=>([Zk x.2 3 RI ((C.take x.1).map (ZIt base)),ZAX b8 25 [dS ZM V,dX x.2],Zm b4 25 2 true (dX (.agg #[.slice none 0 0,.slice none 0 0]))])) (fun x=>C.length-x.1) (fun x=>x.1≤C.length) (0,.slice none 0 0) ?start ?frame0 ?objs0 ?round)
 case start=>exact Nat.zero_le _
 case frame0=>exact zFr
 case objs0=>rfl
 case round =>
  rintro⟨k,v⟩ hk;simp only at hk;dsimp only[ZL,z0,z1];by_cases hkl:k<C.length
  ·have hkI:(k:Int)<(C.length:Int):=by omega
   have hsn:(C.take (k+1)).map (ZIt base)=(C.take k).map (ZIt base)++[ZIt base C[k]]:=by
    rw[List.take_succ_eq_append_getElem hkl,List.map_append];rfl
   have hml:((C.take k).map (ZIt base)).length≤100:=by rw[List.length_map,List.length_take];omega
   (repeat' (first|(apply WL.opN;exact yF;dsimp only[ZC,z0,z1])|refine WL.nil ?_|refine ZA fun Kx hK=>?_|(refine hK _ _ ?_;clear hK)|refine WC.region ?_|(apply WL.opN;(focus ((first|((first|apply SY.move|apply SY.assign|apply SY.lss|apply SY.neq|apply SY.or) <;> (exact oD))|(apply SY.len;(exact oD);(exact nD);(exact uD))|(apply SY.ix;(exact eD);(exact oD);(exact oD);exact kD)|fail);all_goals infer_instance));dsimp only[ZC,z0,z1])|(apply ZB;(exact oD);all_goals (intro h;try exact xD))|refine WC.skip ?_|refine WC.block ?_))
   all_goals try (exfalso;first|contradiction|omega)
   (refine WC.loopU (X:=Nat) (fun j=>[(42,dI (j:Int)),(11,dI (ZKS base C[k] j)),(12,dA),(13,dA),(43,dA),(44,dA),(45,dA),(46,dA),(47,dA),(48,dA),(49,dA),(50,dA),(51,dA),(52,dA),(53,dA),(54,dA)]) (fun j=>([Zk v 3 RI ((C.take k).map (ZIt base)),ZAX b8 25 [dS ZM V,dX v],Zm b4 25 2 true (dX (.agg #[.slice none 0 0,.slice none 0 0]))])) (fun j=>base.length-j) (fun j=>j≤base.length) 0 ?start ?frame0 ?objs0 ?round)
   case start=>exact Nat.zero_le _
   case frame0=>exact zFr
   case objs0=>rfl
   case round =>
    rintro j hj;dsimp only[ZL,z0,z1];by_cases hjl:j<base.length
    ·have hjI:(j:Int)<(base.length:Int):=by omega
     have hmp:=ZRx (c:=C[k]) hjl;have cC:=cnt_p C[k] base[j];by_cases hm:base[j]∈C[k]
     ·have e2:ZRs 1 (j:Int)=((2 ^ j:Nat):Int)   := two9D ⟨j,by omega⟩;rw[if_pos hm,<- e2] at hmp;rw[decide_eq_true hm] at cC;((repeat' (first|(apply WL.opN;exact yF;dsimp only[ZC,z0,z1])|refine WL.nil ?_|refine ZA fun Kx hK=>?_|(refine hK _ _ ?_;clear hK)|refine WC.region ?_ |  (refine WL.alloc (dst:=some 13) tzV (ZBd rfl rfl) fun b13=>?_;dsimp only[ZC,z0,z1]) |  (refine ZP tyV rfl (OpD.t rfl) ZAj ?_;dsimp only[ZC,z0,z1])|(apply WL.opN;(focus ((first|(apply SY.call (cC) Tryz.call52;(exact aD))|((first|apply SY.move|apply SY.assign|apply SY.lss|apply SY.neq|apply SY.or) <;> (exact oD))|((first|apply SY.add) <;> first|exact oD|omega)|((first|apply SY.shl) <;> first|exact oD|assumption|omega)|(apply Zn;(exact eD);(exact oD);(exact oD);exact kD)|fail);all_goals infer_instance));dsimp only[ZC,z0,z1])|(apply Zc;(exact oD);(with_reducible rfl))|(apply ZB;(exact oD);all_goals (intro h;try exact xD))|refine WC.skip ?_|refine WC.block ?_|refine ThenD.n ?_));all_goals (first|((repeat clear hK);(repeat clear Kx))))
      all_goals try (exfalso;first|contradiction|omega)
      rw[<- hmp];(refine zNx (j+1) ?_;(try dsimp only))
      exact hjl
     ·rw[if_neg hm] at hmp;rw[decide_eq_false hm] at cC;((repeat' (first|(apply WL.opN;exact yF;dsimp only[ZC,z0,z1])|refine WL.nil ?_|refine ZA fun Kx hK=>?_|(refine hK _ _ ?_;clear hK)|refine WC.region ?_ |  (refine WL.alloc (dst:=some 13) tzV (ZBd rfl rfl) fun b13=>?_;dsimp only[ZC,z0,z1]) |  (refine ZP tyV rfl (OpD.t rfl) ZAj ?_;dsimp only[ZC,z0,z1])|(apply WL.opN;(focus ((first|(apply SY.call (cC) Tryz.call52;(exact aD))|((first|apply SY.move|apply SY.assign|apply SY.lss|apply SY.neq|apply SY.or) <;> (exact oD))|((first|apply SY.add) <;> first|exact oD|omega)|(apply Zn;(exact eD);(exact oD);(exact oD);exact kD)|fail);all_goals infer_instance));dsimp only[ZC,z0,z1])|(apply ZQ;(exact oD);(with_reducible rfl))|(apply ZB;(exact oD);all_goals (intro h;try exact xD))|refine WC.skip ?_|refine WC.block ?_|refine ThenD.n ?_));all_goals (first|((repeat clear hK);(repeat clear Kx))))
      all_goals try (exfalso;first|contradiction|omega)
      rw[<- hmp];(refine zNx (j+1) ?_;(try dsimp only))
      exact hjl
    ·have hjI:¬ (j:Int)<(base.length:Int):=by omega
     obtain rfl:j=base.length:=by omega
     have hml2:((C.take k).map (ZIt base)).length+1≤101:=by omega
     ((repeat' (first|(apply WL.opN;exact yF;dsimp only[ZC,z0,z1])|refine WL.nil ?_|refine ZA fun Kx hK=>?_|(refine hK _ _ ?_;clear hK)|(refine Kont.skip ?_;clear hK)|refine WC.region ?_ |  (refine Zl elI (R:=RI) (_gR:=inferInstance) (OpD.t rfl) (OpD.t rfl) (fun _=>ZAT) (by simp) (by simp) (by decide) (by omega) fun v'=>?_;dsimp only[ZC,z0,z1]) |  (refine ZCY (mAt 0 rfl) fun hvv=>ZBk (SW.at 1 rfl fun q=>SW.storeS ZEM (OpD.t rfl) (OpD.t rfl) (Zw hvv) (by simp)) fun _=>?_;dsimp only[ZC,z0,z1])|(apply WL.opN;(focus ((first|(refine ZAo ZAO (OpD.t rfl) (by decide))|(refine ZAZ ZEM (OpD.t rfl) (mAt 1 rfl) rfl)|((first|apply SY.move|apply SY.assign|apply SY.lss|apply SY.neq|apply SY.or) <;> (exact oD))|((first|apply SY.add) <;> first|exact oD|omega)|fail);all_goals infer_instance));dsimp only[ZC,z0,z1])|(apply ZB;(exact oD);all_goals (intro h;try exact xD))|refine WC.exit ?_|refine ThenD.n ?_));all_goals (first|((repeat clear hK);(repeat clear Kx))))
     all_goals try (exfalso;first|contradiction|omega)
     rw[show ZKS base C[k] base.length=ZIt base C[k] from rfl,<- hsn];(refine zNx (k+1,v') ?_;(try dsimp only))
     exact hkl
  ·have hkI:¬ (k:Int)<(C.length:Int):=by omega
   obtain rfl:k=C.length:=by omega
   rw[List.take_length];refine WC.perm (List.Perm.swap _ _ _) (ZEt (k:=1) rfl ?_);dsimp only[z0,z1];((repeat' (first|(apply WL.opN;exact yF;dsimp only[ZC,z0,z1])|refine WL.nil ?_|refine ZA fun Kx hK=>?_|(refine hK _ _ ?_;clear hK)|(refine Kont.skip ?_;clear hK)|refine WC.region ?_ |  (refine ZCD ZAz rfl (OpD.t rfl) (ZAD (n:=2) (by decide) rfl) ?_;dsimp only[ZC,z0,z1])|(apply WL.opN;(focus ((first|(refine ZDN ZAz (OpD.t rfl) (.head _) (by decide) rfl)|((first|apply SY.move|apply SY.assign|apply SY.lss|apply SY.neq|apply SY.or) <;> (exact oD))|fail);all_goals infer_instance));dsimp only[ZC,z0,z1])|(apply ZB;(exact oD);all_goals (intro h;try exact xD))|refine WC.ret ?_|refine WC.exit ?_));all_goals (first|((repeat clear hK);(repeat clear Kx))))
   all_goals try (exfalso;first|contradiction|omega)
   exact⟨trivial,⟨_,rfl,FinD.le ZUu⟩,_,rfl,FinD.le (Dat.le_refl _)⟩
end
end Go.Proofs.YtofkoleingbbpaaGreatDoor
