/- Part 42: walks by contracts, and plain laws. -/
import Derived.Test.YtofkoleingbbpaaGreatDoorWa41
set_option linter.unusedVariables false
set_option linter.unusedSimpArgs false
set_option linter.unusedSectionVars false
set_option maxRecDepth 100000
set_option maxHeartbeats 4000000
namespace Go.Proofs.YtofkoleingbbpaaGreatDoor
section
open Go.RowKit
theorem ZSs {ops:Array Oper} {hp:List HObj} {fr:List Dat} {dst:Option Tmp} {ty:TypeId} {ps:String} {af:Array Edge} {g:Option (Nat × Bool)} {x y:Operand} {vs:List Vx} {xs:Cx} (hx:OpD fr x (dS ZN vs)) (hy:OpD fr y (dS Zo xs)):SY Tryz.prog ops hp ⟨dst,.build 46 #[(1,x),(2,y)],ty,ps,af,g⟩ fr (ZFY [dX (.slice none 0 0),dS ZN vs,dS Zo xs]):=SY.val fun {I w a} ho=>by
 have h3:ArrK 2 RV I w (a.eval x) vs:=hx.get (by simp [Op.operands]) ho
 have h2:Arr ZN I w (a.eval y) xs:=hy.get (by simp [Op.operands]) ho
 have h2':=h2
 obtain ⟨ad,c,hv,_⟩:=h2'
 have h3':=h3
 obtain ⟨ad2,c2,hv2,_⟩:=h3'
 have hm:∀ ad n c ad2 n2 c2 w,(Instr.build 46 #[(1,.slice ad2 n2 c2),(2,.slice ad n c)]).run Tryz.prog w = .ok (.agg #[.slice none 0 0,.slice ad2 n2 c2,.slice ad n c]) w:=by intro ad n c ad2 n2 c2 w;go_simp
 refine ⟨.agg #[.slice none 0 0,.slice ad2 vs.length c2,.slice ad xs.length c],?_,[_,_,_],rfl,rfl,by simp [Value.oneCell'],fun k c d hc hd=>?_⟩
 ·unfold execOp
  simp only [List.map_toArray,List.map_cons,List.map_nil,hv,hv2,Sem.run_bind,hm,Result.andThen_ok,Sem.run_pure]
 ·match k,hc,hd with
  | 0,hc,hd=>cases hc;cases hd;rfl
  | 1,hc,hd=>cases hc;cases hd;rw [hv2] at h3;exact h3
  | 2,hc,hd=>cases hc;cases hd;rw [hv] at h2;exact h2
section
variable {P:Program} {ops:Array Oper} {hp:List HObj} {fr:List Dat} {Q:Z6} {rest:List Oper} {T:TypeId} {b:Nat}
theorem ZOZ {zs:List Value} (hn:0<zs.length) (h1:∀ c∈zs,c.oneCell'=true) (h:WL P ops Q rest fr (ZAV b T (zs.map dX)::hp)):WL P ops Q rest fr (Zr b T zs.length true (dX (.agg zs.toArray))::hp):=WL.of fun P0 B w0 w a hh hf=>by
 obtain ⟨cs,u,c1,c2,c0,c3,c4,c5⟩:=hh.ok (Zr b T zs.length true (dX (.agg zs.toArray))) (by simp)
 have hu:u = .agg zs.toArray:=c5
 simp only [if_true] at c4
 rw [hu] at c4
 have hcs:zs=cs:=by injection c4 with c4;exact List.toArray_inj c4
 subst hcs
 have hgr:w.grownBy w (Zr b T zs.length true (dX (.agg zs.toArray))).blk:=⟨rfl,rfl,rfl,Nat.le_refl _,fun _ _ _=>rfl⟩
 have hok:(ZAV b T (zs.map dX)).ok (fun k=>Imm P0 B (Zr b T zs.length true (dX (.agg zs.toArray))::hp) k/\k<w.heap.size) w :=
  ⟨zs,c1,by simp,h1,fun k c d hc hd=>by
   rw [List.getElem?_map,hc] at hd
   cases hd
   rfl⟩
 exact h.on (hh.write hgr (.inl rfl) hok) (hf.mono fun _ _ hd=>Zi (o':=ZAV b T (zs.map dX)) hgr (.inl rfl) hd)
end
theorem ZPF {P:Program} {fn:Func} {t t2:Tmp} {T:TypeId} {n:Nat} {agg:Bool} (T':TyI P T n agg) (hr:fn.results=#[.tmp t2,.cell t T]) {I:Nat->Prop} {w:World} {tmps:Array Value} {b off:Nat} {u:Value} (hp:tmps.getD t undef = .pointer (some ⟨b,off,none⟩)) (h:Cells I w b off n agg u):(results fn tmps).run P w = .ok (.tuple #[tmps.getD t2 undef,u]) w:=by
 have h1:=ZE4 T' h
 have hp':tmps[t]?.getD undef = .pointer (some ⟨b,off,none⟩):=by simpa using hp
 simp [results,hr,hp',asAddr,h1]
theorem ZOP {P:Program} {f:FuncId} {fn:Func} {c:Code} {args:List Dat} {r s:Dat} {t t2:Tmp} {T:TypeId} {n:Nat} {agg:Bool} (T':TyI P T n agg) (hf:P.funcs[f]?=some fn) (hb:fn.body=some c) (hr:fn.results=#[.tmp t2,.cell t T])
  (h:WC P (ZWu t t2 n agg r s) c (args++List.replicate (fn.ntmps-args.length) (dX undef)) []):Fn P f args (dT [s,r]) :=
 ZCe hf hb (fun e fr hp q=>by
  obtain ⟨he,⟨d,hd,hfin⟩,d',hd',hfin'⟩:=q
  refine ⟨by cases e <;> simp_all,fun {P0 B w0 w a} hh hf'=>?_⟩
  obtain ⟨b,off,u,h1,h2,h3⟩:=hf'.rd t _ hd
  refine ⟨_,ZPF T' hr h1 h2,[a.tmps.getD t2 undef,u],rfl,rfl,fun i e x he hx=>?_⟩
  match i,he,hx with
  | 0,he,hx=>cases he;cases hx;exact hfin'.out hh (hf'.rd t2 d' hd')
  | 1,he,hx=>cases he;cases hx;exact hfin.out hh h3) h
abbrev eB:List Vx:=[(0,0),(1,0)]
abbrev eV:List Vx:=[(0,1),(0,3),(1,2),(1,3)]
abbrev eF:Cx:=[[(0,1),(1,3)],[(0,3),(1,2)],[(0,3),(1,3)]]
abbrev eC:Cx:=[[(0,0)],[(0,0),(1,0)],[(1,0)],[(0,0),(1,0)]]

set_option maxHeartbeats 8000000 in
theorem ZTW:Fn Tryz.prog 33 [] (dT [dS ZN eB,dS ZPy (eF,eV,eC)]):=by
 refine ZOP ZMM Tryz.func33 rfl rfl ?_
 show WC _ _ _ (List.replicate 48 (dX undef)) []
 simp only [List.replicate_succ,List.replicate_zero]
 ((repeat' (first |  (refine WC.drawM (fun _=>True) 10 1 [(0,false),(1,false),(2,false),(3,false),(4,false),(5,false),(6,false),(7,false),(8,false),(9,true)] [true,true,true,true,true,true,true,true,true,true,false] (by kernel_rfl) (by kernel_rfl) (by kernel_rfl) rfl (trivial) ?_) |  (first|refine WA.one (S:=[true,true,true,true,true,true,true,true,true,true,false]) (i:=10) (by kernel_rfl) rfl ?_|refine WA.nil (S:=[true,true,true,true,true,true,true,true,true,true,true]) (by kernel_rfl) ?_) |  (refine WC.drawM (fun _=>True) 24 1 [(0,false),(1,false),(2,false),(3,false),(4,false),(5,false),(6,false),(7,false),(8,false),(9,false),(10,false),(11,false),(12,false),(13,false),(14,false),(15,false),(16,false),(17,false),(18,false),(19,false),(20,false),(21,false),(22,false),(23,false)] [true,true,true,true,true,true,true,true,true,true,true,true,true,true,true,true,true,true,true,true,true,true,true,true,false] (by kernel_rfl) (by kernel_rfl) (by kernel_rfl) rfl (trivial) ?_) |  (first|refine WA.one (S:=[true,true,true,true,true,true,true,true,true,true,true,true,true,true,true,true,true,true,true,true,true,true,true,true,false]) (i:=24) (by kernel_rfl) rfl ?_|refine WA.nil (S:=[true,true,true,true,true,true,true,true,true,true,true,true,true,true,true,true,true,true,true,true,true,true,true,true,true]) (by kernel_rfl) ?_) |  (refine WC.drawM (fun hp'=>ZAV b4 46 [dS Zo eF,dS ZN eV,dS Zo eC]∈hp') 3 1 [(0,false),(1,false),(2,false)] [true,true,true,false] (by kernel_rfl) (by kernel_rfl) (by kernel_rfl) rfl (.head _) ?_) |  (first|refine WA.one (S:=[true,true,true,false]) (i:=3) (by kernel_rfl) rfl ?_|refine WA.nil (S:=[true,true,true,true]) (by kernel_rfl) ?_) |  (refine ZBh rfl (SW.alloc tzSb (ZKb rfl rfl rfl)) (fun _=>trivial) fun b4=>?_;dsimp only [ZC,z0,z1])|(refine WM.nil ?_)|(apply WM.readL rfl;(focus (intro c hcc;apply SYG.yes;(exact Zg rfl);((first|(exact ZSs (OpD.t rfl) (OpD.t rfl))|(exact ZNQ (R:=RV) (_gR:=inferInstance) elV (OpD.t rfl) OpD.i 1 rfl (by decide))|(exact ZHS (R:=RV) (_gR:=inferInstance) elV (OpD.t rfl) OpD.i 1 rfl (by decide))|(exact ZBq (R:=RV) (_gR:=inferInstance) (xs:=eV) (k:=0) (v:=(0,1)) elV (by decide) rfl (OpD.t rfl) OpD.i)|(exact ZBq (R:=RV) (_gR:=inferInstance) (xs:=eV) (k:=1) (v:=(0,3)) elV (by decide) rfl (OpD.t rfl) OpD.i)|(exact ZBq (R:=RV) (_gR:=inferInstance) (xs:=eV) (k:=2) (v:=(1,2)) elV (by decide) rfl (OpD.t rfl) OpD.i)|(exact ZBq (R:=RV) (_gR:=inferInstance) (xs:=eV) (k:=3) (v:=(1,3)) elV (by decide) rfl (OpD.t rfl) OpD.i)|(refine ZAf ZCN (OpD.t rfl) (by decide))|(apply ZU3 ZIz;exact OpD.t rfl)|(refine ZCo ZMM (OpD.t rfl) hcc (by decide) rfl)|((first|apply SY.move|apply SY.assign) <;> (exact oD))|(apply SY.load;(exact tD);(exact oD))|(apply SY.buildE;(exact eD);((try simp only [List.map_cons,List.map_nil]);(repeat (first|exact Zl|(apply Zk;(first|exact OpD.t rfl|exact OpD.i|exact OpD.b|exact OpD.tle rfl (by first|exact ZO|exact ZL (by decide))|exact ⟨ZO⟩|exact ⟨ZL (by decide)⟩)))));rfl;rfl;decide;(intro _;exact ZAv);(exact (by simp)))|(apply SY.build1';(exact eD);((try simp only [List.map_cons,List.map_nil]);(repeat (first|exact Zl|(apply Zk;(first|exact OpD.t rfl|exact OpD.i|exact OpD.b|exact OpD.tle rfl (by first|exact ZO|exact ZL (by decide))|exact ⟨ZO⟩|exact ⟨ZL (by decide)⟩)))));rfl;rfl;(intro _;first|exact ZAW|exact ZAK|exact ZAC|exact shape_B);(exact (by simp)))|fail);all_goals infer_instance)));dsimp only [ZC,z0,z1])|((first|apply WL.opN|apply WD.opN);exact yF;dsimp only [ZC,z0,z1])|refine WL.nil ?_|refine ZA fun Kx hK=>?_|(refine hK _ _ ?_;clear hK)|refine WC.region ?_ |  (refine WL.alloc (dst:=some 1) tzSb (ZKb rfl rfl rfl) fun b1=>?_;dsimp only [ZC,z0,z1]) |  (refine ZOZ (zs:=[.slice none 0 0,.slice none 0 0,.slice none 0 0]) (by decide) (by simp [Value.oneCell']) (ZCC ZMM (OpD.t rfl) (OpD.t rfl) rfl rfl ?_);dsimp only [ZC,z0,z1]) |  (refine WL.storeS (k:=0) ZSf (OpD.t rfl) (OpD.t rfl) ZAC (by decide) ?_;dsimp only [ZC,z0,z1]) |  (refine WL.perm (List.Perm.swap _ _ _) (ZW ZMM rfl (OpD.t rfl) (Z8 (n:=3) (by decide) rfl) ?_);dsimp only [ZC,z0,z1])|((first|apply WL.opN|apply WD.opN);(focus ((first|(first|(apply SY.fld0 vxT <;> (exact oD))|(apply SY.fld1 vxT <;> (exact oD))|(apply ZU6 vxT <;> (exact oD))|(apply SY.mkV1 vxT <;> (exact oD))|(apply ZWd vxT <;> (exact oD)))|(apply SY.buildE;(exact eD);((try simp only [List.map_cons,List.map_nil]);(repeat (first|exact Zl|(apply Zk;(first|exact OpD.t rfl|exact OpD.i|exact OpD.b|exact OpD.tle rfl (by first|exact ZO|exact ZL (by decide))|exact ⟨ZO⟩|exact ⟨ZL (by decide)⟩)))));rfl;rfl;decide;(intro _;exact ZAv);(exact (by simp)))|fail);all_goals infer_instance));dsimp only [ZC,z0,z1])|refine WC.ret ?_));all_goals (first|((repeat clear hK);(repeat clear Kx))))
 all_goals try (exfalso;first|contradiction|omega)
 exact ⟨trivial,⟨_,rfl,FinD.le ZWg⟩,_,rfl,FinD.le (Dat.le_refl _)⟩
end
section
open Go.RowKit

theorem ZXT:∀ k:Fin 9,ZRB 1 (k.val:Int)=((2 ^ k.val:Nat):Int):=by decide +kernel
def ZKD (base c:List Vx):Nat->Int
 | 0=>0
 | k+1=>if base.getD k (0,0)∈c then ior (ZKD base c k) ((2 ^ k:Nat):Int) else ZKD base c k
abbrev ZFw (base c:List Vx):Int:=ZKD base c base.length
theorem ZN2 {base c:List Vx} {k:Nat} (h:k<base.length):ZKD base c (k+1)=if base[k]∈c then ior (ZKD base c k) ((2 ^ k:Nat):Int) else ZKD base c k:=by
 show (if base.getD k (0,0)∈c then _ else _)=_
 rw [show base.getD k (0,0)=base[k] by simp [List.getD_eq_getElem?_getD,h]]
def ZSd (F:Cx) (V:List Vx) (C:Cx) (base:List Vx):(List Vx × List Int) × Int :=
 if Z5 base≠0 then (([],[]),Z5 base) else if ZBi (okP [base] V C) [base] F V C≠0 then (([],[]),ZBi (okP [base] V C) [base] F V C) else ((V,C.map (ZFw base)),0)
theorem ZW8 (w:World):(Instr.build 25 #[]).run Tryz.prog w = .ok (.agg #[.slice none 0 0,.slice none 0 0]) w:=by go_simp
theorem ZHW {ops:Array Oper} {hp:List HObj} {fr:List Dat} {dst:Option Tmp} {ty:TypeId} {ps:String} {af:Array Edge} {g:Option (Nat × Bool)}:SY Tryz.prog ops hp ⟨dst,.build 25 #[],ty,ps,af,g⟩ fr (dX (.agg #[.slice none 0 0,.slice none 0 0])):=SY.val fun {I w a} ho=>by
 refine ⟨_,?_,rfl⟩
 unfold execOp
 simp only [List.map_toArray,List.map_nil,Sem.run_bind,ZW8,Result.andThen_ok,Sem.run_pure]
theorem ZNu:(dX (.agg #[.slice none 0 0,.slice none 0 0])).le (dS Lab (([]:List Vx),([]:List Int))):=fun _ _ _ h=>by
 cases (h:_=_)
 exact ⟨_,_,rfl,rfl,rfl,ZHl (by decide),ZBn⟩
set_option maxHeartbeats 16000000 in
theorem ZIg (F:Cx) (V:List Vx) (C:Cx) (base:List Vx) (hF:F.length≤100) (hC:C.length≤100) (hV:V.length≤1000):Fn Tryz.prog 20 [dS ZPy (F,V,C),dS ZN base] (dT [dS Lab (ZSd F V C base).1,dI (ZSd F V C base).2]):=by
 have c1:=ZOl base
 have c2:=ZVK [base] F V C hF hC
 obtain ⟨R,hR⟩:∃ R,ZSd F V C base=R:=⟨_,rfl⟩
 rw [hR]
 unfold ZSd at hR
 refine ZCT ZAI Tryz.func20 rfl rfl ?_
 -- @kinds sperner.Sperner
 simp only [Tryz.ntmps20,List.length_cons,List.length_nil,Nat.reduceAdd,Nat.reduceSub,List.replicate_succ,List.replicate_zero,List.cons_append,List.nil_append]
 by_cases h1:Z5 base≠0
 ·rw [if_pos h1] at hR
  subst hR
  ((repeat' (first|(apply WL.opN;exact yF;dsimp only [ZC,z0,z1])|refine WL.nil ?_|refine ZA fun Kx hK=>?_|(refine hK _ _ ?_;clear hK)|refine WC.region ?_ |  (refine WL.alloc (dst:=some 4) ZMN (ZAc rfl rfl) fun b4=>?_;dsimp only [ZC,z0,z1]) |  (refine ZW ZAI rfl (OpD.t rfl) (ZAc rfl rfl) ?_;dsimp only [ZC,z0,z1])|(apply WL.opN;(focus ((first|(exact SY.box (OpD.t rfl) ZAR)|(apply SY.call (c1) Tryz.call39;(exact aD))|(exact ZHW)|((first|apply SY.move|apply SY.assign|apply SY.lss|apply SY.neq|apply SY.or) <;> (exact oD))|fail);all_goals infer_instance));dsimp only [ZC,z0,z1])|(apply ZG;(exact oD);all_goals (intro h;try exact xD))|refine WC.ret ?_|refine ThenD.r ?_));all_goals (first|((repeat clear hK);(repeat clear Kx))))
  all_goals try (exfalso;first|contradiction|omega)
  exact ⟨trivial,⟨_,rfl,FinD.le ZNu⟩,_,rfl,FinD.le (Dat.le_refl _)⟩
 rw [if_neg h1] at hR
 have h1':Z5 base=0:=Classical.byContradiction h1
 rw [h1'] at c1
 by_cases h2:ZBi (okP [base] V C) [base] F V C≠0
 ·rw [if_pos h2] at hR
  subst hR
  ((repeat' (first|(apply WL.opN;exact yF;dsimp only [ZC,z0,z1])|refine WL.nil ?_|refine ZA fun Kx hK=>?_|(refine hK _ _ ?_;clear hK)|refine WC.region ?_ |  (refine WL.alloc (dst:=some 4) ZMN (ZAc rfl rfl) fun b4=>?_;dsimp only [ZC,z0,z1]) |  (refine ZW ZAI rfl (OpD.t rfl) (ZAc rfl rfl) ?_;dsimp only [ZC,z0,z1])|(apply WL.opN;(focus ((first|(exact SY.box (OpD.t rfl) ZAR)|(apply SY.call (c1) Tryz.call39;(exact aD))|(apply SY.call (c2) Tryz.call51;(exact aD))|(exact ZHW)|(apply SY.load;exact ZMM;exact OpD.t rfl)|((first|apply SY.move|apply SY.assign|apply SY.lss|apply SY.neq|apply SY.or) <;> (exact oD))|(apply ZNO ZIz;exact OpD.t rfl)|(apply SY.build1';(exact eD);((try simp only [List.map_cons,List.map_nil]);(repeat (first|exact Zl|(apply Zk;(first|exact OpD.t rfl|exact OpD.i|exact OpD.b|exact OpD.tle rfl (by first|exact ZO|exact ZL (by decide))|exact ⟨ZO⟩|exact ⟨ZL (by decide)⟩)))));rfl;rfl;(intro _;first|exact ZAW|exact ZAK|exact ZAC|exact shape_B);(exact (by simp)))|fail);all_goals infer_instance));dsimp only [ZC,z0,z1])|(apply ZG;(exact oD);all_goals (intro h;try exact xD))|refine WC.skip ?_|refine WC.ret ?_|refine ThenD.r ?_));all_goals (first|((repeat clear hK);(repeat clear Kx))))
  all_goals try (exfalso;first|contradiction|omega)
  exact ⟨trivial,⟨_,rfl,FinD.le ZNu⟩,_,rfl,FinD.le (Dat.le_refl _)⟩
 rw [if_neg h2] at hR
 have h2':ZBi (okP [base] V C) [base] F V C=0:=Classical.byContradiction h2
 rw [h2'] at c2
 subst hR
 have h8:base.length≤8:=(Ze.1 h1').2.1
 have cCl:=ZJr V hV
 (repeat' (first|(apply WL.opN;exact yF;dsimp only [ZC,z0,z1])|refine WL.nil ?_|refine ZA fun Kx hK=>?_|(refine hK _ _ ?_;clear hK)|refine WC.region ?_ |  (refine WL.alloc (dst:=some 4) ZMN (ZAc rfl rfl) fun b4=>?_;dsimp only [ZC,z0,z1]) |  (refine ZCg (dst:=some 8) (zs:=[.slice none 0 0,.slice none 0 0]) ZMN (by decide) (by simp [Value.oneCell']) fun b8=>?_;dsimp only [ZC,z0,z1,List.map_cons,List.map_nil]) |  (refine ZCC ZAI (OpD.t rfl) (OpD.t rfl) rfl rfl ?_;dsimp only [ZC,z0,z1])|(apply WL.opN;(focus ((first|(exact SY.box (OpD.t rfl) ZAR)|(apply SY.call (c1) Tryz.call39;(exact aD))|(apply SY.call (c2) Tryz.call51;(exact aD))|(apply SY.load;exact ZMM;exact OpD.t rfl)|(refine ZP ZCN (OpD.t rfl) ZA2 rfl rfl)|(apply SY.call (cCl) Tryz.call47;(exact aD))|(exact ZPr (OpD.t rfl))|((first|apply SY.move|apply SY.assign|apply SY.lss|apply SY.neq|apply SY.or) <;> (exact oD))|(apply SY.len;(exact oD);(exact nD);(exact uD))|(apply ZNO ZIz;exact OpD.t rfl)|(apply SY.build1';(exact eD);((try simp only [List.map_cons,List.map_nil]);(repeat (first|exact Zl|(apply Zk;(first|exact OpD.t rfl|exact OpD.i|exact OpD.b|exact OpD.tle rfl (by first|exact ZO|exact ZL (by decide))|exact ⟨ZO⟩|exact ⟨ZL (by decide)⟩)))));rfl;rfl;(intro _;first|exact ZAW|exact ZAK|exact ZAC|exact shape_B);(exact (by simp)))|fail);all_goals infer_instance));dsimp only [ZC,z0,z1])|(apply ZG;(exact oD);all_goals (intro h;try exact xD))|refine WC.skip ?_|refine WC.block ?_))
 all_goals try (exfalso;first|contradiction|omega)
 refine Zt 3 RI ?_
 (refine WC.loopU (X:=Nat × Value) (fun x=>[(36,dI (x.1:Int)),(10,dA),(11,dA),(12,dA),(13,dA),(37,dA),(38,dA),(39,dA),(40,dA),(41,dA),(42,dA),(43,dA),(44,dA),(45,dA),(46,dA),(47,dA),(48,dA),(49,dA),(50,dA),(51,dA),(52,dA),(53,dA),(54,dA),(55,dA),(56,dA),(57,dA),(58,dA),(59,dA),(60,dA),(61,dA)]) (fun x=>([Zp x.2 3 RI ((C.take x.1).map (ZFw base)),ZAV b8 25 [dS ZN V,dX x.2],Zr b4 25 2 true (dX (.agg #[.slice none 0 0,.slice none 0 0]))])) (fun x=>C.length-x.1) (fun x=>x.1≤C.length) (0,.slice none 0 0) ?start ?frame0 ?objs0 ?round)
 case start=>exact Nat.zero_le _
 case frame0=>((try dsimp only [ZK,z0,z1]);repeat (first|exact LeF.nil|refine ZD (k:=?_)))
 case objs0=>rfl
 case round =>
  rintro ⟨k,v⟩ hk
  simp only at hk
  dsimp only [ZK,z0,z1]
  by_cases hkl:k<C.length
  ·have hkI:(k:Int)<(C.length:Int):=by omega
   have hsn:(C.take (k+1)).map (ZFw base)=(C.take k).map (ZFw base)++[ZFw base C[k]]:=by
    rw [List.take_succ_eq_append_getElem hkl,List.map_append];rfl
   have hml:((C.take k).map (ZFw base)).length≤100:=by rw [List.length_map,List.length_take];omega
   (repeat' (first|(apply WL.opN;exact yF;dsimp only [ZC,z0,z1])|refine WL.nil ?_|refine ZA fun Kx hK=>?_|(refine hK _ _ ?_;clear hK)|refine WC.region ?_|(apply WL.opN;(focus ((first|((first|apply SY.move|apply SY.assign|apply SY.lss|apply SY.neq|apply SY.or) <;> (exact oD))|(apply SY.len;(exact oD);(exact nD);(exact uD))|(apply SY.ix;(exact eD);(exact oD);(exact oD);exact kD)|fail);all_goals infer_instance));dsimp only [ZC,z0,z1])|(apply ZB;(exact oD);all_goals (intro h;try exact xD))|refine WC.skip ?_|refine WC.block ?_))
   all_goals try (exfalso;first|contradiction|omega)
   (refine WC.loopU (X:=Nat) (fun j=>[(42,dI (j:Int)),(11,dI (ZKD base C[k] j)),(12,dA),(13,dA),(43,dA),(44,dA),(45,dA),(46,dA),(47,dA),(48,dA),(49,dA),(50,dA),(51,dA),(52,dA),(53,dA),(54,dA)]) (fun j=>([Zp v 3 RI ((C.take k).map (ZFw base)),ZAV b8 25 [dS ZN V,dX v],Zr b4 25 2 true (dX (.agg #[.slice none 0 0,.slice none 0 0]))])) (fun j=>base.length-j) (fun j=>j≤base.length) 0 ?start ?frame0 ?objs0 ?round)
   case start=>exact Nat.zero_le _
   case frame0=>((try dsimp only [ZK,z0,z1]);repeat (first|exact LeF.nil|refine ZD (k:=?_)))
   case objs0=>rfl
   case round =>
    rintro j hj
    dsimp only [ZK,z0,z1]
    by_cases hjl:j<base.length
    ·have hjI:(j:Int)<(base.length:Int):=by omega
     have hmp:=ZN2 (c:=C[k]) hjl
     have cC:=cnt_p C[k] base[j]
     by_cases hm:base[j]∈C[k]
     ·have e2:ZRB 1 (j:Int)=((2 ^ j:Nat):Int)   := ZXT ⟨j,by omega⟩
      rw [if_pos hm,<- e2] at hmp
      rw [decide_eq_true hm] at cC
      ((repeat' (first|(apply WL.opN;exact yF;dsimp only [ZC,z0,z1])|refine WL.nil ?_|refine ZA fun Kx hK=>?_|(refine hK _ _ ?_;clear hK)|refine WC.region ?_ |  (refine WL.alloc (dst:=some 13) tzV (ZAc rfl rfl) fun b13=>?_;dsimp only [ZC,z0,z1]) |  (refine ZW tyV rfl (OpD.t rfl) ZAv ?_;dsimp only [ZC,z0,z1])|(apply WL.opN;(focus ((first|(apply SY.call (cC) Tryz.call52;(exact aD))|((first|apply SY.move|apply SY.assign|apply SY.lss|apply SY.neq|apply SY.or) <;> (exact oD))|((first|apply SY.add) <;> first|exact oD|omega)|((first|apply SY.shl) <;> first|exact oD|assumption|omega)|(apply Zc;(exact eD);(exact oD);(exact oD);exact kD)|fail);all_goals infer_instance));dsimp only [ZC,z0,z1])|(apply Zb;(exact oD);(with_reducible rfl))|(apply ZB;(exact oD);all_goals (intro h;try exact xD))|refine WC.skip ?_|refine WC.block ?_|refine ThenD.n ?_));all_goals (first|((repeat clear hK);(repeat clear Kx))))
      all_goals try (exfalso;first|contradiction|omega)
      rw [<- hmp]
      (refine ⟨j+1,?_,by first|omega|(simp only;omega),rfl,?_⟩;rotate_left;((try dsimp only [ZK,z0,z1]);repeat (first|exact LeF.nil|refine ZD (k:=?_)));(try dsimp only))
      exact hjl
     ·rw [if_neg hm] at hmp
      rw [decide_eq_false hm] at cC
      ((repeat' (first|(apply WL.opN;exact yF;dsimp only [ZC,z0,z1])|refine WL.nil ?_|refine ZA fun Kx hK=>?_|(refine hK _ _ ?_;clear hK)|refine WC.region ?_ |  (refine WL.alloc (dst:=some 13) tzV (ZAc rfl rfl) fun b13=>?_;dsimp only [ZC,z0,z1]) |  (refine ZW tyV rfl (OpD.t rfl) ZAv ?_;dsimp only [ZC,z0,z1])|(apply WL.opN;(focus ((first|(apply SY.call (cC) Tryz.call52;(exact aD))|((first|apply SY.move|apply SY.assign|apply SY.lss|apply SY.neq|apply SY.or) <;> (exact oD))|((first|apply SY.add) <;> first|exact oD|omega)|(apply Zc;(exact eD);(exact oD);(exact oD);exact kD)|fail);all_goals infer_instance));dsimp only [ZC,z0,z1])|(apply ZQ;(exact oD);(with_reducible rfl))|(apply ZB;(exact oD);all_goals (intro h;try exact xD))|refine WC.skip ?_|refine WC.block ?_|refine ThenD.n ?_));all_goals (first|((repeat clear hK);(repeat clear Kx))))
      all_goals try (exfalso;first|contradiction|omega)
      rw [<- hmp]
      (refine ⟨j+1,?_,by first|omega|(simp only;omega),rfl,?_⟩;rotate_left;((try dsimp only [ZK,z0,z1]);repeat (first|exact LeF.nil|refine ZD (k:=?_)));(try dsimp only))
      exact hjl
    ·have hjI:¬ (j:Int)<(base.length:Int):=by omega
     obtain rfl:j=base.length:=by omega
     have hml2:((C.take k).map (ZFw base)).length+1≤101:=by omega
     ((repeat' (first|(apply WL.opN;exact yF;dsimp only [ZC,z0,z1])|refine WL.nil ?_|refine ZA fun Kx hK=>?_|(refine hK _ _ ?_;clear hK)|(refine Kont.skip ?_;clear hK)|refine WC.region ?_ |  (refine Zm elI (R:=RI) (_gR:=inferInstance) (OpD.t rfl) (OpD.t rfl) (fun _=>ZAK) (by simp) (by simp) (by decide) (by omega) fun v'=>?_;dsimp only [ZC,z0,z1]) |  (refine ZDH (mAt 0 rfl) fun hvv=>ZCA (SW.at 1 rfl fun q=>SW.storeS ZBv (OpD.t rfl) (OpD.t rfl) (Z1 hvv) (by simp)) fun _=>?_;dsimp only [ZC,z0,z1])|(apply WL.opN;(focus ((first|(refine ZAf Zx (OpD.t rfl) (by decide))|(refine ZAQ ZBv (OpD.t rfl) (mAt 1 rfl) rfl)|((first|apply SY.move|apply SY.assign|apply SY.lss|apply SY.neq|apply SY.or) <;> (exact oD))|((first|apply SY.add) <;> first|exact oD|omega)|fail);all_goals infer_instance));dsimp only [ZC,z0,z1])|(apply ZB;(exact oD);all_goals (intro h;try exact xD))|refine WC.exit ?_|refine ThenD.n ?_));all_goals (first|((repeat clear hK);(repeat clear Kx))))
     all_goals try (exfalso;first|contradiction|omega)
     rw [show ZKD base C[k] base.length=ZFw base C[k] from rfl,<- hsn]
     (refine ⟨(k+1,v'),?_,by first|omega|(simp only;omega),rfl,?_⟩;rotate_left;((try dsimp only [ZK,z0,z1]);repeat (first|exact LeF.nil|refine ZD (k:=?_)));(try dsimp only))
     exact hkl
  ·have hkI:¬ (k:Int)<(C.length:Int):=by omega
   obtain rfl:k=C.length:=by omega
   rw [List.take_length]
   refine WC.perm (List.Perm.swap _ _ _) (ZEF (k:=1) rfl ?_)
   dsimp only [z0,z1]
   ((repeat' (first|(apply WL.opN;exact yF;dsimp only [ZC,z0,z1])|refine WL.nil ?_|refine ZA fun Kx hK=>?_|(refine hK _ _ ?_;clear hK)|(refine Kont.skip ?_;clear hK)|refine WC.region ?_ |  (refine ZBz ZAI rfl (OpD.t rfl) (Z8 (n:=2) (by decide) rfl) ?_;dsimp only [ZC,z0,z1])|(apply WL.opN;(focus ((first|(refine ZCo ZAI (OpD.t rfl) (.head _) (by decide) rfl)|((first|apply SY.move|apply SY.assign|apply SY.lss|apply SY.neq|apply SY.or) <;> (exact oD))|fail);all_goals infer_instance));dsimp only [ZC,z0,z1])|(apply ZB;(exact oD);all_goals (intro h;try exact xD))|refine WC.ret ?_|refine WC.exit ?_));all_goals (first|((repeat clear hK);(repeat clear Kx))))
   all_goals try (exfalso;first|contradiction|omega)
   exact ⟨trivial,⟨_,rfl,FinD.le ZQM⟩,_,rfl,FinD.le (Dat.le_refl _)⟩
end
end Go.Proofs.YtofkoleingbbpaaGreatDoor
