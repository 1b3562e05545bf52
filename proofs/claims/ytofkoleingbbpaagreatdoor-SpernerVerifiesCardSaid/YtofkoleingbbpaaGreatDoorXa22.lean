/- Part 22: walks by contracts, and plain laws. -/
import Derived.Deep.OwnRows
import Derived.Test.YtofkoleingbbpaaGreatDoorXa21
set_option linter.unusedVariables false
set_option linter.unusedSimpArgs false
set_option linter.unusedSectionVars false
set_option maxRecDepth 100000
set_option maxHeartbeats 64000000
namespace Go.Proofs.YtofkoleingbbpaaGreatDoor
section
open Go.RowKit

theorem ZPo (x y:Vx):Fn Tryz.prog 40 [dS RV x,dS RV y] (dI (ZAd x y)):=by
 have hC:=ZHx [x] [y];rw[M.ZMH] at hC;(refine ZE Tryz.func40 rfl rfl ?_;simp only[Tryz.ntmps40,List.length_cons,List.length_nil,Nat.reduceAdd,Nat.reduceSub,List.replicate_succ,List.replicate_zero,List.cons_append,List.nil_append])
 ((repeat' (first|(apply WL.opN;exact yF;dsimp only[ZC,z0,z1])|refine WL.nil ?_|refine ZA fun Kx hK=>?_|(refine hK _ _ ?_;clear hK)|refine WC.region ?_|(apply WL.opN;(focus ((first|(apply SY.call (hC) Tryz.call80;(exact aD))|(apply SY.buildE;(exact eD);((try simp only[List.map_cons,List.map_nil]);(repeat (first|exact Zp|(apply Zo;(first|exact OpD.t rfl|exact OpD.i|exact OpD.b|exact OpD.tle rfl (by first|exact ZN|exact ZH (by decide))|exact⟨ZN⟩|exact⟨ZH (by decide)⟩)))));rfl;rfl;decide;(intro _;exact ZAj);(exact(by simp)))|(apply SY.box;(exact oD);(exact hD))|fail);all_goals infer_instance));dsimp only[ZC,z0,z1])|refine WC.ret ?_));all_goals (first|((repeat clear hK);(repeat clear Kx))))
 (refine⟨trivial,_,rfl,?_⟩;exact fD)
section
variable {P:Program} {ops:Array Oper} {hp:List HObj} {fr:List Dat} {dst:Option Tmp} {ty:TypeId} {ps:String} {af:Array Edge} {g:Option (Nat × Bool)}
theorem ZIJ {x:Operand} {A T:TypeId} {u v:Value} {n:Int} (hx:OpD fr x (dI n)) (hu:u = .int .i64 n) (hr:∀w,(convert A T u).run P w = .ok v w) :
  SY P ops hp ⟨dst,.convert A T x,ty,ps,af,g⟩ fr (dX v):=SY.val fun {I w a} ho=>by
 have h1:a.eval x=u:=(hx.get (by simp[Op.operands]) ho:a.eval x = .int .i64 n).trans hu.symm;refine⟨v,?_,rfl⟩;unfold execOp;simp only[h1,Sem.run_bind,hr,Result.andThen_ok,Sem.run_pure]
theorem ZLF {x y:Operand} {T T2:TypeId} {u v r:Value} {op:BinOp} (hx:OpD fr x (dX u)) (hy:OpD fr y (dX v)) (hr:∀(x y:Operand) w,(do eqGuard op T x y u v;Go.binOp op T u v).run P w = .ok r w) :
  SY P ops hp ⟨dst,.binOp op T x y T2,ty,ps,af,g⟩ fr (dX r):=SY.val fun {I w a} ho=>by
 have h1:a.eval x=u:=hx.get (by simp[Op.operands]) ho;have h2:a.eval y=v:=hy.get (by simp[Op.operands]) ho;refine⟨r,?_,rfl⟩;have:=hr x y w;unfold execOp;simp only[h1,h2];rw[Sem.run_bind,this];rfl
end
theorem cvIW (n:Nat) (h:n<9223372036854775808):∀w,(convert 3 177 (.int .i64 (n:Int))).run Tryz.prog w = .ok (.int .u64 (n:Int)) w:=by
 have hw:IntKind.u64.wrap (n:Int)=(n:Int):=by simp[IntKind.wrap,IntKind.signed,IntKind.bits];omega
 intro w;go_simp
theorem cvWI (n:Nat) (h:n<9223372036854775808):∀w,(convert 177 3 (.int .u64 (n:Int))).run Tryz.prog w = .ok (.int .i64 (n:Int)) w:=by
 have hw:IntKind.i64.wrap (n:Int)=(n:Int):=by rw[IntKind.wrap_i64];omega
 intro w;go_simp
theorem shrW (n:Nat) (h:n<9223372036854775808):∀(x y:Operand) w,(do eqGuard .shr 177 x y (.int .u64 (n:Int)) (.int .u64 1);Go.binOp .shr 177 (.int .u64 (n:Int)) (.int .u64 1)).run Tryz.prog w = .ok (.int .u64 ((n / 2:Nat):Int)) w:=by
 intro x y w
 go_simp
abbrev dOrd:Dat:=ZK7 Tryz.prog (fun x:Vx × Vx=>[dS RV x.1,dS RV x.2]) (fun x=>dI (ZAd x.1 x.2))
theorem ZEM:TyI Tryz.prog 23 1 false:=⟨by kernel_rfl,Tryz.isAgg23⟩
theorem tyFi:TyI Tryz.prog 83 1 false:=⟨by kernel_rfl,Tryz.isAgg83⟩
theorem tzFi:TyZ Tryz.prog 83 .nilFunc:=⟨by kernel_rfl⟩
def ZUh (vs:List Vx) (v:Vx):Nat:=(vs.filter fun u=>decide (ZAd u v<0)).length
theorem ZS5 {vs:List Vx} {v:Vx} {i:Nat} (hi:i≤vs.length) (h1:∀k (h:k<vs.length),k<i->ZAd vs[k] v<0) (h2:∀k (h:k<vs.length),i≤k->¬ ZAd vs[k] v<0):ZUh vs v=i:=by
 unfold ZUh;have e:vs=vs.take i++vs.drop i:=(List.take_append_drop i vs).symm;rw[e,List.filter_append,List.length_append];have a1:(vs.take i).filter (fun u=>decide (ZAd u v<0))=vs.take i:=by
  rw[List.filter_eq_self];intro u hu;obtain⟨k,hk,rfl⟩:=List.getElem_of_mem hu;rw[List.length_take] at hk;rw[List.getElem_take];exact decide_eq_true (h1 k (by omega) (by omega))
 have a2:(vs.drop i).filter (fun u=>decide (ZAd u v<0))=[]:=by
  rw[List.filter_eq_nil_iff];intro u hu;obtain⟨k,hk,rfl⟩:=List.getElem_of_mem hu;rw[List.length_drop] at hk;rw[List.getElem_drop,decide_eq_true_eq];exact h2 (i+k) (by omega) (by omega)
 rw[a1,a2,List.length_take,List.length_nil];omega
theorem ZSn {vs:List Vx} (ha:Asc vs) {v:Vx} {k m:Nat} (hk:k<m) (hm:m<vs.length) (h:ZAd vs[m] v<0):ZAd (vs[k]'(by omega)) v<0 :=
 ZBC (List.pairwise_iff_getElem.1 ha k m (by omega) hm hk) h
theorem bs_p (vs:List Vx) (v:Vx) (ha:Asc vs) (hl:vs.length≤1000000):Fn Tryz.prog 86 [dS ZM vs,dS RV v,dOrd] (dT [dI (ZUh vs v:Int),dB (decide (v∈vs))]):=by
 (refine Z9 Tryz.func86 rfl rfl ?_;simp only[Tryz.ntmps86,List.length_cons,List.length_nil,Nat.reduceAdd,Nat.reduceSub,List.replicate_succ,List.replicate_zero,List.cons_append,List.nil_append])
 (repeat' (first|((first|apply WL.opN|apply WD.opN);exact yF;dsimp only[ZC,z0,z1])|refine WL.nil ?_|refine ZA fun Kx hK=>?_|(refine hK _ _ ?_;clear hK)|refine WC.region ?_|((first|apply ZF|apply WD.op);(focus (first|exact wN|(apply SYG.yes;(exact wY);((first|(apply SY.len;(exact oD);(exact nD);(exact uD))|(apply SY.box;(exact oD);(exact hD))|fail);all_goals infer_instance))));dsimp only[ZC,z0,z1])|refine WC.block ?_))
 (refine WC.loopU (X:=Nat × Nat) (fun x=>[(9,dI (x.1:Int)),(10,dI (x.2:Int)),(11,dA),(15,dA),(16,dA),(17,dA),(18,dA),(19,dA),(20,dA),(21,dA),(22,dA),(23,dA),(24,dA),(25,dA),(26,dA),(27,dA),(28,dA),(29,dA),(30,dA),(31,dA),(32,dA),(33,dA),(34,dA)]) (fun x=>[]) (fun x=>x.2-x.1) (fun x=>x.1≤x.2/\x.2≤vs.length/\(∀k (h:k<vs.length),k<x.1->ZAd vs[k] v<0)/\(∀k (h:k<vs.length),x.2≤k->¬ ZAd vs[k] v<0)) (0,vs.length) ?start ?frame0 ?objs0 ?round)
 case start=>exact⟨Nat.zero_le _,Nat.le_refl _,fun k _ h=>by omega,fun k h1 h2=>by simp only at h2;omega⟩
 case frame0=>exact zFr
 case objs0=>rfl
 case round =>
  rintro⟨i,j⟩ ⟨h1,h2,h3,h4⟩;simp only at h1 h2 h3 h4;dsimp only[ZL,z0,z1];by_cases hij:i<j
  ·have hm:(i+j) / 2<vs.length:=by omega
   ((repeat' (first|((first|apply WL.opN|apply WD.opN);exact yF;dsimp only[ZC,z0,z1])|refine WL.nil ?_|refine WD.nil ?_|refine ZA fun Kx hK=>?_|(refine hK _ _ ?_;clear hK)|refine WC.region ?_|(apply WC.draw;kernel_rfl;kernel_rfl)|((first|apply ZF|apply WD.op);(focus (first|exact wN|(apply SYG.yes;(exact wY);((first|(exact ZIJ (n:=(i:Int)+(j:Int)) (OpD.t rfl) (u:=.int .i64 ((i+j:Nat):Int)) (by push_cast;rfl) (cvIW (i+j) (by omega)))|(exact ZLF (OpD.t rfl) OpD.x (shrW (i+j) (by omega)))|(exact ZII (OpD.t rfl) (cvWI ((i+j) / 2) (by omega)))|(refine Zn (R:=RV) (_gR:=inferInstance) elV (OpD.t rfl) (OpD.t rfl) hm)|(apply ZBJ (x:=(vs[(i+j) / 2],v));(exact OpD.t rfl);(exact aD))|((first|apply SY.move|apply SY.assign|apply SY.lss|apply SY.eql) <;> (exact oD))|((first|apply SY.add) <;> first|exact oD|omega)|fail);all_goals infer_instance))));dsimp only[ZC,z0,z1])|(apply ZB;(exact oD);all_goals (intro h;try exact xD))|refine WC.skip ?_|refine WC.block ?_|refine ThenD.n ?_|refine InBlockD.n ?_));all_goals (first|((repeat clear hK);(repeat clear Kx))))
   all_goals try (exfalso;omega)
   ·(refine zNx ((i+j) / 2+1,j) ?_;(try dsimp only))
    refine⟨by omega,h2,fun k hk hlt=>?_,h4⟩;by_cases hkm:k=(i+j) / 2
    ·subst hkm;exact h
    ·exact ZSn ha (by omega) hm h
   ·(refine zNx (i,(i+j) / 2) ?_;(try dsimp only))
    refine⟨by omega,by omega,h3,fun k hk hle hlt=>?_⟩;by_cases hkm:k=(i+j) / 2
    ·subst hkm;exact h hlt
    ·exact h (ZSn ha (by omega) hk hlt)
  ·have hie:i=j:=by omega
   subst hie;have hp:=ZS5 h2 h3 h4;have hb:=fun hv=>ZNm ha h3 h4 (v:=v) hv;rw[hp];by_cases hi:i<vs.length
   ·have hd:decide (v∈vs)=decide (ZAd vs[i] v=0):=by
     rw[decide_eq_decide];constructor
     ·intro hv;obtain⟨_,e⟩:=hb hv;rw[e];exact ZBy.2 rfl
     ·intro e;rw[<- ZBy.1 e];exact List.getElem_mem hi
    rw[hd];((repeat' (first|((first|apply WL.opN|apply WD.opN);exact yF;dsimp only[ZC,z0,z1])|refine WL.nil ?_|refine WD.nil ?_|refine ZA fun Kx hK=>?_|(refine hK _ _ ?_;clear hK)|(refine Kont.skip ?_;clear hK)|refine WC.region ?_|(apply WC.draw;kernel_rfl;kernel_rfl)|((first|apply ZF|apply WD.op);(focus (first|exact wN|(apply SYG.yes;(exact wY);((first|(refine Zn (R:=RV) (_gR:=inferInstance) elV (OpD.t rfl) (OpD.t rfl) hi)|(apply ZBJ (x:=(vs[i],v));(exact OpD.t rfl);(exact aD))|((first|apply SY.move|apply SY.assign|apply SY.lss|apply SY.eql) <;> (exact oD))|(apply SY.load;(exact tD);(exact oD))|(apply ZZ;(exact oD);(with_reducible rfl);(exact oD))|fail);all_goals infer_instance))));dsimp only[ZC,z0,z1])|((first|refine ZK rfl rfl rfl (fun h=>?_) (fun h=>?_)|refine ZJ rfl rfl rfl (fun h=>?_) (fun h=>?_)|refine ZI rfl rfl rfl (fun h=>?_) (fun h=>?_)|refine ZW rfl rfl rfl (fun h=>?_) (fun h=>?_)|refine ZU rfl rfl rfl (fun h=>?_) (fun h=>?_)|refine ZS rfl rfl rfl (fun h=>?_) (fun h=>?_)) <;> (first|(exfalso;first|omega|contradiction)|(dsimp only[z0,z1])))|(apply ZB;(exact oD);all_goals (intro h;try exact xD))|refine WC.ret ?_|refine WC.exit ?_));all_goals (first|((repeat clear hK);(repeat clear Kx))))
    all_goals try (exfalso;omega)
    (refine⟨trivial,⟨_,rfl,?_⟩,_,rfl,?_⟩ <;> (first|refine FinD.i ?_|refine FinD.b ?_)) <;> first|(rw[hp])|(rw[hd])
   ·have hd:decide (v∈vs)=false:=decide_eq_false fun hv=>hi (hb hv).1;rw[hd];((repeat' (first|((first|apply WL.opN|apply WD.opN);exact yF;dsimp only[ZC,z0,z1])|refine WL.nil ?_|refine WD.nil ?_|refine ZA fun Kx hK=>?_|(refine hK _ _ ?_;clear hK)|(refine Kont.skip ?_;clear hK)|refine WC.region ?_|(apply WC.draw;kernel_rfl;kernel_rfl)|((first|apply ZF|apply WD.op);(focus (first|exact wN|(apply SYG.yes;(exact wY);((first|((first|apply SY.move|apply SY.assign|apply SY.lss|apply SY.eql) <;> (exact oD))|(apply ZY;(exact oD);(with_reducible rfl);(exact oD))|fail);all_goals infer_instance))));dsimp only[ZC,z0,z1])|((first|refine ZK rfl rfl rfl (fun h=>?_) (fun h=>?_)|refine ZJ rfl rfl rfl (fun h=>?_) (fun h=>?_)|refine ZI rfl rfl rfl (fun h=>?_) (fun h=>?_)|refine ZW rfl rfl rfl (fun h=>?_) (fun h=>?_)|refine ZU rfl rfl rfl (fun h=>?_) (fun h=>?_)|refine ZS rfl rfl rfl (fun h=>?_) (fun h=>?_)) <;> (first|(exfalso;first|omega|contradiction)|(dsimp only[z0,z1])))|(apply ZB;(exact oD);all_goals (intro h;try exact xD))|refine WC.ret ?_|refine WC.exit ?_));all_goals (first|((repeat clear hK);(repeat clear Kx))))
    all_goals try (exfalso;omega)
    (refine⟨trivial,⟨_,rfl,?_⟩,_,rfl,?_⟩ <;> (first|refine FinD.i ?_|refine FinD.b ?_)) <;> first|(rw[hp])|(rw[hd])
theorem ZMU:(dX (.func (.func 40) #[] #[])).le dOrd:=ZKN Tryz.call40 fun x=>ZPo x.1 x.2
theorem ZTq {vs:List Vx} {A:List Int} {v:Vx} (ha:Asc vs) (hA:A.length=vs.length) (hv:v∈vs):∃h:ZUh vs v<A.length,Zd vs A v=A[ZUh vs v]:=by
 obtain⟨k,hk,rfl⟩:=List.getElem_of_mem hv;have hn:vs.Nodup:=List.Pairwise.imp (fun {a b} h e=>by rw[e,ZBy.2 rfl] at h;omega) ha;have hp:ZUh vs vs[k]=k:=by
  refine ZS5 (Nat.le_of_lt hk) (fun m hm hlt=>List.pairwise_iff_getElem.1 ha m k hm hk hlt) (fun m hm hle hlt=>?_);rcases Nat.lt_or_ge k m with q|q
  ·have h1:=List.pairwise_iff_getElem.1 ha k m hk hm q;have h2:=ZIa vs[k] vs[m];omega
  ·have:k=m:=by omega
   subst this;rw[ZBy.2 rfl] at hlt;omega
 rw[hp];exact⟨by omega,ZJ9 hn hk (by omega)⟩
theorem ZPR (vs:List Vx) (A:List Int) (v:Vx) (ha:Asc vs) (hA:A.length=vs.length) (hl:vs.length≤1000000):Fn Tryz.prog 85 ([dS RV v]++[dP 2 true (dS Lab (vs,A))]) (dI (Zd vs A v)):=by
 show Fn Tryz.prog 85 [dS RV v,dP 2 true (dS Lab (vs,A))] _;have hB:=bs_p vs v ha hl;by_cases hv:v∈vs
 ·obtain⟨hp,he⟩:=ZTq ha hA hv;rw[decide_eq_true hv] at hB;(refine ZE Tryz.func85 rfl rfl ?_;simp only[Tryz.ntmps85,List.length_cons,List.length_nil,Nat.reduceAdd,Nat.reduceSub,List.replicate_succ,List.replicate_zero,List.cons_append,List.nil_append])
  ((repeat' (first|(apply WL.opN;exact yF;dsimp only[ZC,z0,z1])|refine WL.nil ?_|refine ZA fun Kx hK=>?_|(refine hK _ _ ?_;clear hK)|refine WC.region ?_|(apply WL.opN;(focus ((first|(refine ZV ZAO (OpD.t rfl) Zx rfl rfl)|(apply SY.call hB Tryz.call86;exact ArgsD.cons (OpD.t rfl) (ArgsD.cons (OpD.t rfl) (ArgsD.cons ⟨ZMU⟩ ArgsD.nil)))|(apply SY.load;exact ZEM;exact OpD.t rfl)|(refine SY.ix (R:=RI) (_gR:=inferInstance) elI (OpD.t rfl) (OpD.t rfl) hp)|((first|apply SY.move|apply SY.assign|apply SY.not) <;> (exact oD))|(apply SY.extract;(exact oD);rfl)|(apply SY.box;(exact oD);(exact hD))|fail);all_goals infer_instance));dsimp only[ZC,z0,z1])|(apply ZO;(exact oD);all_goals (intro h;try exact xD))|refine WC.skip ?_|refine WC.ret ?_));all_goals (first|((repeat clear hK);(repeat clear Kx))))
  all_goals try (exfalso;first|contradiction|omega)
  (refine⟨trivial,_,rfl,?_⟩;refine FinD.i ?_)
  all_goals (rw[he])
 ·rw[decide_eq_false hv] at hB;rw[ZHz hv];(refine ZE Tryz.func85 rfl rfl ?_;simp only[Tryz.ntmps85,List.length_cons,List.length_nil,Nat.reduceAdd,Nat.reduceSub,List.replicate_succ,List.replicate_zero,List.cons_append,List.nil_append])
  ((repeat' (first|(apply WL.opN;exact yF;dsimp only[ZC,z0,z1])|refine WL.nil ?_|refine ZA fun Kx hK=>?_|(refine hK _ _ ?_;clear hK)|refine WC.region ?_|(apply WL.opN;(focus ((first|(refine ZV ZAO (OpD.t rfl) Zx rfl rfl)|(apply SY.call hB Tryz.call86;exact ArgsD.cons (OpD.t rfl) (ArgsD.cons (OpD.t rfl) (ArgsD.cons ⟨ZMU⟩ ArgsD.nil)))|((first|apply SY.move|apply SY.assign|apply SY.not) <;> (exact oD))|(apply SY.extract;(exact oD);rfl)|(apply SY.box;(exact oD);(exact hD))|fail);all_goals infer_instance));dsimp only[ZC,z0,z1])|(apply ZO;(exact oD);all_goals (intro h;try exact xD))|refine WC.ret ?_|refine ThenD.r ?_));all_goals (first|((repeat clear hK);(repeat clear Kx))))
  all_goals try (exfalso;first|contradiction|omega)
  (refine⟨trivial,_,rfl,?_⟩;exact fD)
abbrev ZNJ (f:Vx->Int):Dat:=ZK7 Tryz.prog (fun v:Vx=>[dS RV v]) (fun v=>dI (f v))
theorem ZGM (vs:List Vx) (A:List Int) (ha:Asc vs) (hA:A.length=vs.length) (hl:vs.length≤1000000):Fn Tryz.prog 46 [dS Lab (vs,A)] (ZNJ (Zd vs A)):=by
 (refine ZE Tryz.func46 rfl rfl ?_;simp only[Tryz.ntmps46,List.length_cons,List.length_nil,Nat.reduceAdd,Nat.reduceSub,List.replicate_succ,List.replicate_zero,List.cons_append,List.nil_append])
 ((repeat' (first|(apply WL.opN;exact yF;dsimp only[ZC,z0,z1])|refine WL.nil ?_|refine ZA fun Kx hK=>?_|(refine hK _ _ ?_;clear hK)|refine WC.region ?_|(apply WL.opN;(focus ((first|(apply ZBj (A:=fun v:Vx=>[dS RV v]) (r:=fun v=>dI (Zd vs A v)) Tryz.call85 (fun v=>ZPR vs A v ha hA hl) (fun _=>ZOr);(exact aD))|(apply SY.box;(exact oD);(exact hD))|fail);all_goals infer_instance));dsimp only[ZC,z0,z1])|refine WC.ret ?_));all_goals (first|((repeat clear hK);(repeat clear Kx))))
 (refine⟨trivial,_,rfl,?_⟩;exact fD)
theorem ZPF (f:Vx->Int) (v:Vx):Fn Tryz.prog 84 ([dS RV v]++[dP 1 false (ZNJ f)]) (dB (decide (f v=0))):=by
 show Fn Tryz.prog 84 [dS RV v,dP 1 false (ZNJ f)] _;(refine ZE Tryz.func84 rfl rfl ?_;simp only[Tryz.ntmps84,List.length_cons,List.length_nil,Nat.reduceAdd,Nat.reduceSub,List.replicate_succ,List.replicate_zero,List.cons_append,List.nil_append])
 ((repeat' (first|(apply WL.opN;exact yF;dsimp only[ZC,z0,z1])|refine WL.nil ?_|refine ZA fun Kx hK=>?_|(refine hK _ _ ?_;clear hK)|refine WC.region ?_|(apply WL.opN;(focus ((first|(apply SY.load;exact tyFi;exact OpD.t rfl)|(apply ZBJ (x:=v);(exact OpD.t rfl);(exact aD))|((first|apply SY.assign|apply SY.eql) <;> (exact oD))|(apply SY.box;(exact oD);(exact hD))|fail);all_goals infer_instance));dsimp only[ZC,z0,z1])|refine WC.ret ?_));all_goals (first|((repeat clear hK);(repeat clear Kx))))
 (refine⟨trivial,_,rfl,?_⟩;exact fD)
def ZGJ (l:Cx) (f:Vx->Int):Bool:=l.all fun s=>!(s.any fun v=>decide (f v=0))
theorem ZGK (l:Cx) (vs:List Vx) (A:List Int) (ha:Asc vs) (hA:A.length=vs.length) (hl:vs.length≤1000000):Fn Tryz.prog 44 [dS Cpx l,dS Lab (vs,A)] (dB (ZGJ l (Zd vs A))):=by
 (refine ZE Tryz.func44 rfl rfl ?_;simp only[Tryz.ntmps44,List.length_cons,List.length_nil,Nat.reduceAdd,Nat.reduceSub,List.replicate_succ,List.replicate_zero,List.cons_append,List.nil_append])
 (first|refine ZR (t:=0) rfl ZEH fun hl0=>?_|refine ZR (t:=0) rfl ZDu fun hl0=>?_|refine ZR (t:=0) rfl ZJS fun hl0=>?_);simp only[maxLen] at hl0
 (repeat' (first|(apply WL.opN;exact yF;dsimp only[ZC,z0,z1])|refine WL.nil ?_|refine ZA fun Kx hK=>?_|(refine hK _ _ ?_;clear hK)|refine WC.region ?_ |  (refine WL.alloc tzFi (Zw rfl) fun b5=>?_;dsimp only[ZC,z0,z1]) |  (refine ZP tyFi rfl (OpD.t rfl) ZLl ?_;dsimp only[ZC,z0,z1])|(apply WL.opN;(focus ((first|(apply SY.load;exact ZAz;exact OpD.t rfl)|(apply SY.call (ZGM vs A ha hA hl) Tryz.call46;(exact aD))|(apply SY.len;(exact oD);(exact nD);(exact uD))|(apply ZDM ZNx;exact OpD.t rfl)|(apply SY.box;(exact oD);(exact hD))|fail);all_goals infer_instance));dsimp only[ZC,z0,z1])|refine WC.block ?_))
 (refine WC.loopU (X:=Nat) (fun k=>[(13,dI (k:Int)),(4,dA),(7,dA),(14,dA),(15,dA),(16,dA),(17,dA),(18,dA),(19,dA),(20,dA)]) (fun k=>[]) (fun k=>l.length-k) (fun k=>k≤l.length/\ZGJ l (Zd vs A)=ZGJ (l.drop k) (Zd vs A)) 0 ?start ?frame0 ?objs0 ?round)
 case start=>exact⟨Nat.zero_le _,rfl⟩
 case frame0=>exact zFr
 case objs0=>rfl
 case round =>
  rintro k ⟨h1,h2⟩;dsimp only[ZL,z0,z1];((repeat' (first|(apply WL.opN;exact yF;dsimp only[ZC,z0,z1])|refine WL.nil ?_|refine ZA fun Kx hK=>?_|(refine hK _ _ ?_;clear hK)|(refine Kont.skip ?_;clear hK)|refine WC.region ?_|(apply WL.opN;(focus ((first|(apply ZBj (A:=fun v:Vx=>[dS RV v]) (r:=fun v=>dB (decide (Zd vs A v=0))) Tryz.call84 (fun v=>ZPF (Zd vs A) v) (fun _=>ZHs);(exact aD))|(apply SY.call (ZSq _ (fun v=>decide (Zd vs A v=0))) Tryz.call83;(exact aD))|((first|apply SY.move|apply SY.assign|apply SY.lss) <;> (exact oD))|((first|apply SY.add) <;> first|exact oD|omega)|(apply SY.ix;(exact eD);(exact oD);(exact oD);exact kD)|fail);all_goals infer_instance));dsimp only[ZC,z0,z1])|(apply ZB;(exact oD);all_goals (intro h;try exact xD))|(apply WC.cond;(exact oD);all_goals (intro h;try exact xD))|refine WC.skip ?_|refine WC.ret ?_|refine WC.exit ?_|refine WC.block ?_|refine ThenD.n ?_|refine ThenD.r ?_|refine InBlockD.r ?_));all_goals (first|((repeat clear hK);(repeat clear Kx))))
  ·(refine⟨trivial,_,rfl,?_⟩;refine FinD.b ?_)
   rw[h2,List.drop_eq_getElem_cons (by omega)];unfold ZGJ;rw[List.all_cons,h];rfl
  ·(refine zNx (k+1) ?_;(try dsimp only))
   refine⟨by omega,?_⟩;rw[h2,List.drop_eq_getElem_cons (by omega)];unfold ZGJ;rw[List.all_cons,h];rfl
  ·(refine⟨trivial,_,rfl,?_⟩;refine FinD.b ?_)
   rw[h2,List.drop_of_length_le (by omega)];rfl
theorem ZQS (m:Int) (h : -1000000≤m/\m≤1000000):Fn Tryz.prog 75 [dI m] (dB (!decide (ZQr m (m-1)=0))):=by
 (refine ZE Tryz.func75 rfl rfl ?_;simp only[Tryz.ntmps75,List.length_cons,List.length_nil,Nat.reduceAdd,Nat.reduceSub,List.replicate_succ,List.replicate_zero,List.cons_append,List.nil_append])
 ((repeat' (first|(apply WL.opN;exact yF;dsimp only[ZC,z0,z1])|refine WL.nil ?_|refine ZA fun Kx hK=>?_|(refine hK _ _ ?_;clear hK)|refine WC.region ?_|(apply WL.opN;(focus ((first|((first|apply SY.move|apply SY.assign|apply SY.neq|apply SY.and) <;> (exact oD))|((first|apply SY.sub) <;> first|exact oD|omega)|fail);all_goals infer_instance));dsimp only[ZC,z0,z1])|refine WC.ret ?_));all_goals (first|((repeat clear hK);(repeat clear Kx))))
 (refine⟨trivial,_,rfl,?_⟩;exact fD)
def ZUj (A:List Int):Bool:=!(A.any fun m=>!decide (ZQr m (m-1)=0))
theorem ZMq (vs:List Vx) (A:List Int) (h:∀m∈A,-1000000≤m/\m≤1000000):Fn Tryz.prog 35 [dS Lab (vs,A)] (dB (ZUj A)):=by
 have hC:=ZSr A fun m=>!decide (ZQr m (m-1)=0);(refine ZE Tryz.func35 rfl rfl ?_;simp only[Tryz.ntmps35,List.length_cons,List.length_nil,Nat.reduceAdd,Nat.reduceSub,List.replicate_succ,List.replicate_zero,List.cons_append,List.nil_append])
 ((repeat' (first|(apply WL.opN;exact yF;dsimp only[ZC,z0,z1])|refine WL.nil ?_|refine ZA fun Kx hK=>?_|(refine hK _ _ ?_;clear hK)|refine WC.region ?_|(apply WL.opN;(focus ((first|(refine ZV ZAO (OpD.t rfl) Zx rfl rfl)|(apply SY.load;exact ZEM;exact OpD.t rfl)|(apply SY.call hC Tryz.call74;exact ArgsD.cons (OpD.t rfl) (ArgsD.cons ⟨ZKN Tryz.call75 fun i=>ZQS i.1 (h i.1 i.2)⟩ ArgsD.nil))|((first|apply SY.assign|apply SY.not) <;> (exact oD))|(apply SY.box;(exact oD);(exact hD))|fail);all_goals infer_instance));dsimp only[ZC,z0,z1])|refine WC.ret ?_));all_goals (first|((repeat clear hK);(repeat clear Kx))))
 (refine⟨trivial,_,rfl,?_⟩;exact fD)
theorem ZFq (s:List Vx) (f:Vx->Int):Fn Tryz.prog 45 [dS ZM s,ZNJ f] (dI (orL f s)):=by
 (refine ZE Tryz.func45 rfl rfl ?_;simp only[Tryz.ntmps45,List.length_cons,List.length_nil,Nat.reduceAdd,Nat.reduceSub,List.replicate_succ,List.replicate_zero,List.cons_append,List.nil_append])
 (first|refine ZR (t:=0) rfl ZEH fun hl0=>?_|refine ZR (t:=0) rfl ZDu fun hl0=>?_|refine ZR (t:=0) rfl ZJS fun hl0=>?_);simp only[maxLen] at hl0
 (repeat' (first|(apply WL.opN;exact yF;dsimp only[ZC,z0,z1])|refine WL.nil ?_|refine ZA fun Kx hK=>?_|(refine hK _ _ ?_;clear hK)|refine WC.region ?_|(apply WL.opN;(focus ((first|(apply SY.len;(exact oD);(exact nD);(exact uD))|fail);all_goals infer_instance));dsimp only[ZC,z0,z1])|refine WC.block ?_))
 (refine WC.loopU (X:=Nat) (fun k=>[(5,dI (orL f (s.take k))),(10,dI (k:Int)),(7,dA),(11,dA),(12,dA),(13,dA),(14,dA),(15,dA),(16,dA),(17,dA),(18,dA),(19,dA)]) (fun k=>[]) (fun k=>s.length-k) (fun k=>k≤s.length) 0 ?start ?frame0 ?objs0 ?round)
 case start=>exact Nat.zero_le _
 case frame0=>exact zFr
 case objs0=>rfl
 case round =>
  rintro k h1;dsimp only[ZL,z0,z1];by_cases hk:k<s.length
  ·have he:ior (orL f (s.take k)) (f s[k])=orL f (s.take (k+1)):=by
    unfold orL;rw[List.take_succ_eq_append_getElem hk,List.foldl_append];rfl
   ((repeat' (first|(apply WL.opN;exact yF;dsimp only[ZC,z0,z1])|refine WL.nil ?_|refine ZA fun Kx hK=>?_|(refine hK _ _ ?_;clear hK)|refine WC.region ?_|(apply WL.alloc;(first|exact tzV|exact tzC);(first|exact Zw rfl|exact ZAU|exact shape_C0 rfl);(intro _;dsimp only[ZC,z0,z1]))|(apply ZP;(exact tD);rfl;(exact oD);(exact hD);dsimp only[ZC,z0,z1])|(apply WL.opN;(focus ((first|(apply ZBJ (x:=s[k]);(exact OpD.t rfl);(exact aD))|((first|apply SY.move|apply SY.assign|apply SY.lss|apply SY.or) <;> (exact oD))|((first|apply SY.add) <;> first|exact oD|omega)|(apply Zn;(exact eD);(exact oD);(exact oD);exact kD)|fail);all_goals infer_instance));dsimp only[ZC,z0,z1])|(apply ZB;(exact oD);all_goals (intro h;try exact xD))|refine WC.skip ?_|refine WC.block ?_|refine ThenD.n ?_));all_goals (first|((repeat clear hK);(repeat clear Kx))))
   all_goals try (exfalso;omega)
   rw[he];(refine zNx (k+1) ?_;(try dsimp only))
   omega
  ·((repeat' (first|(apply WL.opN;exact yF;dsimp only[ZC,z0,z1])|refine WL.nil ?_|refine ZA fun Kx hK=>?_|(refine hK _ _ ?_;clear hK)|(refine Kont.skip ?_;clear hK)|refine WC.region ?_|(apply WL.opN;(focus ((first|((first|apply SY.move|apply SY.assign|apply SY.lss|apply SY.or) <;> (exact oD))|fail);all_goals infer_instance));dsimp only[ZC,z0,z1])|(apply ZB;(exact oD);all_goals (intro h;try exact xD))|refine WC.ret ?_|refine WC.exit ?_));all_goals (first|((repeat clear hK);(repeat clear Kx))))
   all_goals try (exfalso;omega)
   rw[List.take_of_length_le (by omega)];(refine⟨trivial,_,rfl,?_⟩;exact fD)
end
section
open Go.RowKit
abbrev NoDef (ops:List Oper):Prop:=(ops.all fun o=>match o.op with|.defer _=>false|_=>true)=true
theorem NoDef.at {ops:List Oper} (h:NoDef ops):∀o∈ops,∀c,o.op ≠ .defer c:=fun o ho c hc=>by have:=List.all_eq_true.1 h o ho;rw[hc] at this;cases this
section
variable {P:Program} {l:Nat} {Q:Z5} {fr:List Dat} {hp:List HObj} {c:Code} {d:Dat}
theorem WR.on (h:WR P l Q c fr hp) {P0:Nat->Prop} {B:Nat} {w0 w:World} {a:Act} (hh:Hp P0 B w0 hp w) (hf:Fr (Imm P0 B hp) w a fr):c.wpIn (Fence.wide.inRound l) 0 P (ZCr Q P0 B w0) a w:=h.out _ _ _ _ _ hh hf
theorem WR.id (h:WR P l Q c fr hp):WR P l Q c fr hp:=h
theorem WR.mono {Q':Z5} (h:WR P l Q c fr hp) (k:∀e f p,Q e f p->Q' e f p):WR P l Q' c fr hp:=WR.of fun _ _ _ _ _ hh hf=>wpIn_mono (h.on hh hf) fun _ _ _ ⟨f,p,q,r⟩=>⟨f,p,k _ _ _ q,r⟩
theorem WR.weak {fr':List Dat} (h:WR P l Q c fr' hp) (hl:fr.length=fr'.length) (k:∀(t:Nat) (d:Dat),fr'[t]?=some d->∃d0:Dat,fr[t]?=some d0/\d0.le d):WR P l Q c fr hp:=WR.of fun _ _ _ _ _ hh hf=>h.on hh (hf.weak hl k)
theorem WR.drop {o:HObj} (h:WR P l Q c fr hp):WR P l Q c fr (o::hp):=WR.of fun _ _ _ _ _ hh hf=>h.on hh.drop (hf.mono fun d _ hd=>d.weak hd Imm.sub)
end
namespace I
section
variable {P:Program} {ops:Array Oper} {hp:List HObj} {fr:List Dat} {d:Dat} {Q:Z5} {rest:List Oper} {dst:Option Tmp} {op:Op} {ty:TypeId} {ps:String} {af:Array Edge}
theorem WL.opN (h:SY P ops hp ⟨dst,op,ty,ps,af,none⟩ fr d) (k:WL P ops Q rest (ZC fr dst d) hp):WL P ops Q (⟨dst,op,ty,ps,af,none⟩::rest) fr hp:=ZF (SYG.yes (Za rfl) h) k
end
end I
end
section
open Go.RowKit
theorem ZMj {K V:Type} [DecidableEq K] {m:List (K × V)} {x:K} {v:V} {p:K × V} (h:p∈ZCI m x v):p=(x,v)\/p∈m:=by
 unfold ZCI at h;split at h
 ·obtain⟨q,hq,rfl⟩:=List.mem_map.1 h;split
  ·exact .inl rfl
  ·exact .inr hq
 ·rcases List.mem_append.1 h with h|h
  ·exact .inr h
  ·exact .inl (List.mem_singleton.1 h)
theorem ZF2 {K V:Type} [DecidableEq K] {m:List (K × V)} {x:K}:(lookM m x).isSome=true↔x∈m.map (·.1):=by
 unfold lookM;rw[Option.isSome_map,List.find?_isSome];constructor
 ·rintro⟨p,hp,he⟩;exact List.mem_map.2 ⟨p,hp,of_decide_eq_true he⟩
 ·intro h;obtain⟨p,hp,he⟩:=List.mem_map.1 h;exact⟨p,hp,decide_eq_true he⟩
theorem ZP4 {K V:Type} [DecidableEq K] (m:List (K × V)) (x:K) (v:V):(ZCI m x v).map (·.1)=if x∈m.map (·.1) then m.map (·.1) else m.map (·.1)++[x]:=by
 unfold ZCI;by_cases h:x∈m.map (·.1)
 ·rw[if_pos (ZF2.2 h),if_pos h,List.map_map];refine List.map_congr_left fun p _=>?_;show(if p.1=x then(x,v) else p).1=p.1;split
  ·rename_i e;exact e.symm
  ·rfl
 ·rw[if_neg fun q=>h (ZF2.1 q),if_neg h,List.map_append];rfl
section
variable {P:Program} {ops:Array Oper} {hp:List HObj} {fr:List Dat} {d:Dat} {Q:Z5} {rest:List Oper}
variable {dst:Option Tmp} {ty:TypeId} {ps:String} {af:Array Edge} {g:Option (Nat × Bool)} {t k e:TypeId} {z:Value} {K α:Type} [DecidableEq K] {kv:K->Value} {ok:K->Prop} {R:Rel α} [Good R] {b:Nat} {M:List (K × Value × α)}
theorem ZIL {x:Operand} {ad:Addr} (hx:OpD fr x (dX (.pointer (some ad)))):SY P ops hp ⟨dst,.nilCheck x,ty,ps,af,g⟩ fr (dX (.pointer (some ad))):=SY.val fun {I w a} ho=>by
 have h1:a.eval x = .pointer (some ad):=hx.get (by simp[Op.operands]) ho;refine⟨.pointer (some ad),?_,rfl⟩;unfold execOp;simp only[h1,Sem.run_pure]
end
namespace I
section
variable {P:Program} {ops:Array Oper} {hp:List HObj} {fr:List Dat} {d e:Dat} {Q:Z5} {rest:List Oper}
variable {dst:Option Tmp} {ty:TypeId} {ps:String} {af:Array Edge} {g:Option (Nat × Bool)} {T T1 T2:TypeId} {b off k n:Nat} {ds ds':List Dat}
theorem WL.storeS {t:Nat} {x:Operand} (T':TyI P T1 1 false) (hp0:OpD fr (.tmp t) (dX (.pointer (some ⟨b,k,none⟩)))) (hx:OpD fr x d) (hs:d.Shape 1 false) (hk:k<ds.length)
  (h:WL P ops Q rest (ZC fr dst (dX undef)) (ZAX b T2 (ds.set k d)::hp)) :
  WL P ops Q (⟨dst,.store T1 (.tmp t) x,ty,ps,af,none⟩::rest) fr (ZAX b T2 ds::hp):=by
 refine WL.of fun P0 B w0 w a hh hf=>?_;obtain⟨cs,c1,c2,c3,c4⟩:=hh.ok (ZAX b T2 ds) (by simp);have h1:a.eval (.tmp t)=_:=hp0.ev hf;have hd:d.rd (Imm P0 B (ZAX b T2 ds::hp)) w (a.eval x):=hx.ev hf;obtain⟨us,u1,u0,u2,u3,u4⟩:=hs _ _ _ hd;obtain⟨u,rfl⟩:∃u,us=[u]:=List.length_eq_one_iff.1 u1;have hu:a.eval x=u:=by
  simp only[Bool.false_eq_true,if_false] at u4;exact(List.cons.inj u4).1.symm
 have hone:u.oneCell'=true:=u2 u (by simp);have hdu:d.rd (Imm P0 B (ZAX b T2 ds::hp)) w u:=by rw[hu] at hd;exact hd
 have hkc:k<cs.length:=by omega
 have hset:=setCell_eq_setRow w b k cs.toArray T2 (0,0) u c1;have hc:w.cell? ⟨b,k,none⟩=some cs[k]:=by simp[World.cell?,c1,hkc]
 have hfz:w.frozen? ⟨b,k,none⟩=false:=by simp[World.frozen?,c1]
 have hst:(store ((⟨b,k,none⟩:Addr).add 0) u).run P w = .ok () (w.setCell ⟨b,k,none⟩ u):=by
  rw[show((⟨b,k,none⟩:Addr).add 0)=⟨b,k,none⟩ from rfl,run_store P w _ u _ hone,hc];simp[hfz]
 have hsz:(sizeOf T1).run P w = .ok 1 w:=by
  have h5:=T'.size;cases hq:P.info? T1 with
  | none=>rw[hq] at h5;cases h5
  | some i =>
   rw[hq] at h5;have:i.size=1:=by simpa using h5
   rw[<- this];rw[run_sizeOf w hq];simp[Program.cellsOf,hq]
 have hw:w.setCell ⟨b,k,none⟩ u=w.setRow b (cs.set k u).toArray:=by rw[hset];simp
 have hrun:(execOp a.eval ⟨dst,.store T1 (.tmp t) x,ty,ps,af,none⟩).run P w = .ok .skip (w.setRow b (cs.set k u).toArray):=by
  rw[<- hw];unfold execOp;simp only[h1,hu,Instr.storeAt,Instr.sureAddr,storeVar,Sem.run_bind,hsz,Result.andThen_ok,Sem.run_pure];simp[ZC5 hone,storeCells,hst]
 refine ZBe rfl fun K hK=>?_;unfold Oper.wp;rw[hrun];have hgr:w.grownBy (w.setRow b (cs.set k u).toArray) (ZAX b T2 ds).blk:=ZAM;have hok:(ZAX b T2 (ds.set k d)).ok (fun j=>Imm P0 B (ZAX b T2 ds::hp) j/\j<w.heap.size) (w.setRow b (cs.set k u).toArray):=by
  refine⟨cs.set k u,setRow_heap w b _ _ _ _ c1,by simp[c2],fun c hc=>?_,fun j c e hc he=>?_⟩
  ·rcases List.mem_or_eq_of_mem_set hc with hc|rfl
   ·exact c3 c hc
   ·exact hone
  ·rw[List.getElem?_set] at hc he;by_cases hjk:k=j
   ·rw[if_pos hjk,if_pos (by omega)] at hc he;cases hc;cases he;exact d.grown (d.bound hdu) hgr fun j q hj=>hj.1.2 (ZAX b T2 ds) (by simp) q
   ·rw[if_neg hjk] at hc he;exact e.grown (e.bound (c4 j c e hc he)) hgr fun j q hj=>hj.1.2 (ZAX b T2 ds) (by simp) q
 exact hK _ _ (h.on (hh.write hgr (.inl rfl) hok) (Fr.put (hf.mono fun _ _ hd=>Ze (o':=ZAX b T2 (ds.set k d)) hgr (.inl rfl) hd) (d:=dX undef) rfl))
end
end I
end
section
open Go.RowKit
section
variable {P:Program} {ops:Array Oper} {hp:List HObj} {fr:List Dat} {Q:Z5} {rest:List Oper} {c:Code} {d:Dat} {α:Type} {R:Rel α} {e:TypeId}
structure CapH (hp:List HObj) (v:Value) (d:Dat):Prop where
 out:∀ {P0:Nat->Prop} {B:Nat} {w0 w:World},Hp P0 B w0 hp w->d.rd anyB w v
theorem CapH.map {K V:Type} {kv:K->Value} {vv:V->Value} {R:Rel V} [Good R] {M:List (K × V)} {b m:Nat} {T:TypeId} (h1:Zm b T 1 false (dX (.map (some m)))∈hp) (h2:hM m kv vv M∈hp) (hvv:∀I w (y:V),R I w (vv y) y) :
  CapH hp (.pointer (some ⟨b,0,none⟩)) (dP 1 false (dS (ZF4 kv R) M)):=CapH.mk fun {P0 B w0 w} hh=>by
 obtain⟨cs,u,c1,c2,c0,c3,c4,c5⟩:=hh.ok _ h1;have hu:u = .map (some m):=c5;have hb:w.heap[m]?=some (ZAc _):=hh.ok _ h2;refine⟨b,0,u,rfl,ZA6 c1 c2 c0 c3 c4 trivial,m,M.map fun p=>vv p.2,hu,trivial,by simp,?_,fun k q1 q2=>?_⟩
 ·rw[hb];congr 2;unfold ZAV;rw[List.zip_map',List.map_map];rfl
 ·simp only[List.getElem_map];exact hvv _ _ _
end
section
variable {P:Program} {ops:Array Oper} {hp:List HObj} {fr:List Dat} {d:Dat}
variable {dst:Option Tmp} {ty:TypeId} {ps:String} {af:Array Edge} {g:Option (Nat × Bool)} {t k e:TypeId} {z:Value} {K α:Type} [DecidableEq K] {kv:K->Value} {ok:K->Prop} {R:Rel α} {m:List (K × α)}
theorem ZJd [Good R] {x y:Operand} {v:K} {a0:α} (T:MapT P t k e z) (H:KeyT P k kv ok) (hx:OpD fr x (dS (ZF4 kv R) m)) (hy:OpD fr y d) (hd:IsV d (kv v)) (ho:ok v) (hok:∀p∈m,ok p.1) (hn:(m.map (·.1)).Nodup) (hz:∀I w,R I w z a0) :
  SY P ops hp ⟨dst,.lookup t x y true,ty,ps,af,g⟩ fr (dT [dS R ((Go.Proofs.YtofkoleingbbpaaGreatDoor.lookM m v).getD a0),dB (Go.Proofs.YtofkoleingbbpaaGreatDoor.lookM m v).isSome]):=SY.val fun {I w a} hon=>by
 obtain⟨b,us,h1,h2,h3,h4,h5⟩:=hx.get (by simp[Op.operands]) hon;have h6:=hd.is _ _ _ (hy.get (by simp[Op.operands]) hon);have hkeys:((m.map (·.1)).zip us).map (·.1)=m.map (·.1):=by rw[List.map_fst_zip];simp[h3]
 refine⟨.tuple #[((Go.Proofs.YtofkoleingbbpaaGreatDoor.lookM ((m.map (·.1)).zip us) v).map id).getD z,.bool (Go.Proofs.YtofkoleingbbpaaGreatDoor.lookM ((m.map (·.1)).zip us) v).isSome],?_,[((Go.Proofs.YtofkoleingbbpaaGreatDoor.lookM ((m.map (·.1)).zip us) v).map id).getD z,.bool (Go.Proofs.YtofkoleingbbpaaGreatDoor.lookM ((m.map (·.1)).zip us) v).isSome],rfl,rfl,fun i e x he hx=>?_⟩
 ·unfold execOp;simp only[h1,h6,Sem.run_bind,ZDF (vv:=id) T H (fun(p:K × Value) (hp:p∈(m.map (·.1)).zip us)=>by
   have:p.1∈m.map (·.1):=by rw[<- hkeys];exact List.mem_map_of_mem hp
   obtain⟨q,hq,he⟩:=List.mem_map.1 this;rw[<- he];exact hok q hq) (by rw[hkeys];exact hn) ho h4 true,Result.andThen_ok,Sem.run_pure]
  rfl
 ·rcases ZKO h3 v with ⟨e1,e2⟩|⟨j,j1,j2,e1,e2⟩
  ·match i,he,hx with
   | 0,he,hx=>cases he;cases hx;rw[e1,e2];exact hz I w
   | 1,he,hx=>cases he;cases hx;rw[e1,e2];rfl
  ·match i,he,hx with
   | 0,he,hx=>cases he;cases hx;rw[e1,e2];exact h5 j j1 j2
   | 1,he,hx=>cases he;cases hx;rw[e1,e2];rfl
theorem ZMw [Good R] {x y:Operand} {v:K} {a0:α} (T:MapT P t k e z) (H:KeyT P k kv ok) (hx:OpD fr x (dS (ZF4 kv R) m)) (hy:OpD fr y d) (hd:IsV d (kv v)) (ho:ok v) (hok:∀p∈m,ok p.1) (hn:(m.map (·.1)).Nodup) (hz:∀I w,R I w z a0) (hl:Go.Proofs.YtofkoleingbbpaaGreatDoor.lookM m v=none) :
  SY P ops hp ⟨dst,.lookup t x y true,ty,ps,af,g⟩ fr (dT [dS R a0,dB false]):=by
 have:=ZJd (ops:=ops) (hp:=hp) (dst:=dst) (ty:=ty) (ps:=ps) (af:=af) (g:=g) T H hx hy hd ho hok hn hz;rwa[hl] at this
theorem ZMx [Good R] {x y:Operand} {v:K} {a0 u:α} (T:MapT P t k e z) (H:KeyT P k kv ok) (hx:OpD fr x (dS (ZF4 kv R) m)) (hy:OpD fr y d) (hd:IsV d (kv v)) (ho:ok v) (hok:∀p∈m,ok p.1) (hn:(m.map (·.1)).Nodup) (hz:∀I w,R I w z a0) (hl:Go.Proofs.YtofkoleingbbpaaGreatDoor.lookM m v=some u) :
  SY P ops hp ⟨dst,.lookup t x y true,ty,ps,af,g⟩ fr (dT [dS R u,dB true]):=by
 have:=ZJd (ops:=ops) (hp:=hp) (dst:=dst) (ty:=ty) (ps:=ps) (af:=af) (g:=g) T H hx hy hd ho hok hn hz;rwa[hl] at this
end
end
section
def insS:List (Vx × List Vx)->Vx->List Vx->List (Vx × List Vx)
 | [],v,c=>[(v,c)]
 | (x,a)::d,v,c=>if ZAd v x<0 then(v,c)::(x,a)::d else(x,a)::insS d v c
def putS (d:List (Vx × List Vx)) (v:Vx) (c:List Vx):List (Vx × List Vx):=if v∈d.map (·.1) then d else insS d v c
def atB (s:List Vx) (m:Nat):List Vx:=(s.zipIdx.filter fun p=>decide ((m >>> p.2) &&& 1=1)).map (·.1)
end
section
open Go.RowKit

theorem zip_snoc {s:List Vx} {k:Nat} (h:k<s.length):(s.take (k+1)).zipIdx=(s.take k).zipIdx++[(s[k],k)]:=by
 rw[List.take_succ_eq_append_getElem h,List.zipIdx_append];simp[Nat.min_eq_left (Nat.le_of_lt h)]
end
end Go.Proofs.YtofkoleingbbpaaGreatDoor
