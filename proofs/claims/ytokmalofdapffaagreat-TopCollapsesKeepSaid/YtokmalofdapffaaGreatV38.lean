/- Part 38: walks by contracts, and plain laws. -/
import Derived.Test.YtokmalofdapffaaGreatV37
set_option linter.unusedVariables false
set_option linter.unusedSimpArgs false
set_option linter.unusedSectionVars false
set_option maxRecDepth 100000
set_option maxHeartbeats 4000000
namespace Go.Proofs.YtokmalofdapffaaGreat
section
open Go.RowKit

set_option maxHeartbeats 8000000 in
theorem ZPe (v:Value) (xs:List Vx) (i:Nat) (hi:i<xs.length) (hl:xs.length≤1000):CallC Tryz.prog 76 [dX v,dI (i:Int),dI ((i:Int)+1)] [Zg v 47 2 RV xs] fun d' hp2=>∃ u,d'=dX u/\hp2=[Zg u 47 2 RV (xs.take i++xs.drop (i+1))]:=by
 (refine ZAb Tryz.func76 rfl rfl (fun hp=>?_);simp only [Tryz.ntmps76,List.length_cons,List.length_nil,List.length_append,List.length_map,Nat.reduceAdd,Nat.reduceSub,List.replicate_succ,List.replicate_zero,List.cons_append,List.nil_append,List.map_cons,List.map_nil,List.append_assoc])
 refine ZO6 (by omega) fun b cap hv hc1 hc2=>?_
 subst hv
 simp only [maxLen] at hc2
 have hm:xs.length-(i+1)=xs.length-(i+1):=rfl
 ((repeat' (first |  (apply WC.drawTail 6;kernel_rfl;kernel_rfl;simp only [List.take_succ_cons,List.take_zero,List.drop_succ_cons,List.drop_zero])|(refine WRd.nil ?_)|(apply WRd.readL rfl;(focus (intro c hcc;apply SYG.yes;(exact ZP rfl);((first|(apply ZMI (l:=i) (k:=i+1) (q:=xs.length) elV;exact OpD.t rfl;exact OpD.t rfl;exact OpD.t rfl;exact OpD.t rfl;rfl;omega;rfl;omega;omega;omega)|(apply SY.uptoO (l:=i) elV;exact OpD.t rfl;exact OpD.t rfl;rfl;omega;omega;omega)|(apply SY.fromP (l:=i+1) elV;exact OpD.t rfl;exact OpD.t rfl;omega;omega;omega)|(apply SY.midO (l:=i+(xs.length-(i+1))) (k:=xs.length) elV;exact OpD.t rfl;exact OpD.t rfl;exact OpD.t rfl;rfl;rfl;omega;omega)|((first|apply SY.move|apply SY.assign|apply SY.eql) <;> (exact oD))|(apply SY.len;(exact oD);(exact nD);(exact uD))|(apply SY.lenRK;exact OpD.t rfl;(first|exact .head _|exact .tail _ (.head _));(exact uD))|(apply ZBQ;exact OpD.t rfl;(first|exact .head _|exact .tail _ (.head _));(exact uD))|(first|(apply ZCz vxT <;> (exact oD)))|(apply SY.eqlB;(exact oD);(exact oD);exact eqBB)|((first|(apply ZBD;(exact eD))|(apply ZBC;(exact eD)));(exact oD);(first|exact BndD.no|exact BndD.yes (OpD.t rfl)|exact ZW (OpD.t rfl) (by omega)|exact ZW OpD.i rfl);(first|exact BndD.no|exact BndD.yes (OpD.t rfl)|exact ZW (OpD.t rfl) (by omega)|exact ZW OpD.i rfl);(first|assumption|omega);(first|assumption|omega))|fail);all_goals infer_instance)));dsimp only [ZB,z0,z1])|((first|apply WL.opN|apply WD.opN);exact yF;dsimp only [ZB,z0,z1])|refine WL.nil ?_|refine WD.nil ?_|refine ZA fun Kx hK=>?_|(refine hK _ _ ?_;clear hK)|(refine Kont.skip ?_;clear hK)|refine WC.region ?_|(apply WC.draw;kernel_rfl;kernel_rfl) |  (apply ZMV (i:=i) (j:=i+1) elV;exact OpD.t rfl;exact OpD.t rfl;exact hm;(intro hpos;rw [if_neg (by omega)];omega);omega;omega;dsimp only [ZB,z0,z1]) |  (apply ZMN (k:=i+(xs.length-(i+1))) (n:=xs.length-(i+(xs.length-(i+1)))) Tryz.underlying41 Tryz.zeroValue47;exact OpD.t rfl;(rw [if_neg (by omega)];omega);omega;(simp only [List.length_append,List.length_take,List.length_drop];omega);dsimp only [ZB,z0,z1];refine ZJT (k:=i+(xs.length-(i+1))) ?_ ?_;(simp only [List.length_append,List.length_take,List.length_drop,List.length_replicate];omega))|((first|apply WL.appK|apply WL.app1);(exact eD);exact OpD.t rfl;(exact oD);decide;(exact lD);(intro _;dsimp only [ZB,z0,z1]);all_goals (try infer_instance))|((apply (WL.perm (List.Perm.swap _ _ _));(first|apply WL.appK|apply WL.app1);(exact eD);exact OpD.t rfl;(exact oD);decide;(exact lD);(intro _;dsimp only [ZB,z0,z1]);all_goals (try infer_instance)))|((first|apply WL.opN|apply WD.opN);(focus ((first|(apply ZMI (l:=i) (k:=i+1) (q:=xs.length) elV;exact OpD.t rfl;exact OpD.t rfl;exact OpD.t rfl;exact OpD.t rfl;rfl;omega;rfl;omega;omega;omega)|(apply SY.uptoO (l:=i) elV;exact OpD.t rfl;exact OpD.t rfl;rfl;omega;omega;omega)|(apply SY.fromP (l:=i+1) elV;exact OpD.t rfl;exact OpD.t rfl;omega;omega;omega)|(apply SY.midO (l:=i+(xs.length-(i+1))) (k:=xs.length) elV;exact OpD.t rfl;exact OpD.t rfl;exact OpD.t rfl;rfl;rfl;omega;omega)|((first|apply SY.move|apply SY.assign|apply SY.eql) <;> (exact oD))|(apply SY.len;(exact oD);(exact nD);(exact uD))|fail);all_goals infer_instance));dsimp only [ZB,z0,z1])|(apply Z0;(exact oD);(with_reducible rfl))|(apply Za;(exact oD);(with_reducible rfl))|(apply WC.condD;(exact oD);all_goals (intro h;try exact xD))|(apply WC.condN;(exact oD);all_goals (intro h;try exact xD))|(apply WC.condNB;(exact oD);all_goals (intro h;try exact xD))|(apply WC.cond;(exact oD);all_goals (intro h;try exact xD))|refine WC.skip ?_|refine WC.ret ?_|refine ThenD.n ?_|refine ThenD.r ?_));all_goals (first|refine WC.id ?_|refine WL.id ?_|((repeat clear hK);(repeat clear Kx))))
 all_goals first|(exfalso;omega)|skip
 refine ⟨trivial,_,[_],rfl,rfl,_,rfl,?_⟩
 have e1:(xs.take i++xs.drop (i+1)).length=i+(xs.length-(i+1)):=by simp only [List.length_append,List.length_take,List.length_drop];omega
 have e2:List.take (i+(xs.length-(i+1))) (List.take (i+(xs.length-(i+1))) (List.take i xs++List.drop (i+1) xs++List.drop (i+(xs.length-(i+1))) xs)++List.replicate (xs.length-(i+(xs.length-(i+1)))) (0,0))=List.take i xs++List.drop (i+1) xs:=by
  rw [<- e1,List.take_left' rfl,List.take_left' rfl]
 rw [e2]
def ZAv (xs:List Vx) (i:Nat):List Vx:=xs.take i++xs.drop (i+1)
set_option maxHeartbeats 8000000 in
theorem ZDt (xs:List Vx) (i:Nat) (hi:i<xs.length) (hl:xs.length≤1000):Fn Tryz.prog 45 [dS ZJ xs,dI (i:Int)] (dS ZJ (ZAv xs i)):=by
 (refine ZG Tryz.func45 rfl rfl ?_;simp only [Tryz.ntmps45,List.length_cons,List.length_nil,Nat.reduceAdd,Nat.reduceSub,List.replicate_succ,List.replicate_zero,List.cons_append,List.nil_append])
 have hd:=fun v=>ZPe v xs i hi hl
 ((repeat' (first|(apply WL.opN;exact yF;dsimp only [ZB,z0,z1])|refine WL.nil ?_|refine ZA fun Kx hK=>?_|(refine hK _ _ ?_;clear hK)|refine WC.region ?_ |  (apply ZMR (by decide) (ZRX xs (by omega)) Tryz.call44;(exact aD);intro vc;dsimp only [ZB,z0,z1]) |  (refine WL.callC (hp1:=[_]) (caps:=[]) (hd _) Tryz.call76 OpD.f (ArgsD.cons (OpD.t rfl) (ArgsD.cons (OpD.t rfl) (ArgsD.cons (OpD.t rfl) ArgsD.nil))) ?_;rintro d' hp2 ⟨vd,rfl,rfl⟩;dsimp only [ZB,z0,z1,List.cons_append,List.nil_append])|(apply WL.opN;(focus ((first|((first|apply SY.add) <;> first|exact oD|omega)|fail);all_goals infer_instance));dsimp only [ZB,z0,z1])|refine WC.ret ?_));all_goals (first|((repeat clear hK);(repeat clear Kx))))
 (refine ⟨trivial,_,rfl,?_⟩;exact fD)
end
section
open Go.RowKit

theorem ZGn (l:Cx) {k:Nat}:∀ {n:Nat},k<n->(Zs l (k+1)).length≤Zz l n
 | 0,h=>by omega
 | n+1,h=>by
  rw [ZA3]
  by_cases he:k=n
  ·subst he;omega
  ·have:=ZGn l (k:=k) (n:=n) (by omega);omega
set_option maxHeartbeats 8000000 in
theorem ZJo (l:Cx) (h0:ZA8 l=0):Fn Tryz.prog 19 [dS Cpx l] (dB (decide (4096<Zz l 8))):=by
 (refine ZG Tryz.func19 rfl rfl ?_;simp only [Tryz.ntmps19,List.length_cons,List.length_nil,Nat.reduceAdd,Nat.reduceSub,List.replicate_succ,List.replicate_zero,List.cons_append,List.nil_append])
 (repeat' (first|(apply WL.opN;exact yF;dsimp only [ZB,z0,z1])|refine WL.nil ?_|refine ZA fun Kx hK=>?_|(refine hK _ _ ?_;clear hK)|refine WC.region ?_|(apply WL.opN;(focus ((first|(apply SY.box;(exact oD);(exact hD))|fail);all_goals infer_instance));dsimp only [ZB,z0,z1])|refine WC.block ?_))
 (refine ZH (X:=Nat × Nat) (fun x=>[(4,dI ((x.1+1:Nat):Int)),(3,dI (x.2:Int)),(2,dA),(5,dA),(6,dA),(7,dA),(8,dA),(9,dA),(10,dA),(11,dA),(12,dA),(13,dA),(14,dA),(15,dA),(16,dA),(17,dA),(18,dA),(19,dA),(20,dA),(21,dA),(22,dA)]) (fun x=>[]) (fun x=>8-x.1) (fun x=>x.1≤8/\x.2=Zz l x.1/\x.2≤4096*x.1) (0,0) ?start ?frame0 ?objs0 ?round)
 case start=>exact ⟨Nat.zero_le _,rfl,Nat.zero_le _⟩
 case frame0=>((try dsimp only [ZQ,z0,z1]);repeat (first|exact LeF.nil|refine ZD (k:=?_)))
 case objs0=>rfl
 case round =>
  rintro ⟨k,n⟩ ⟨h1,h3,h4⟩
  simp only at h1 h3 h4
  dsimp only [ZQ,z0,z1]
  by_cases hk:k<8
  ·have c1:=ZCn l ((k+1:Nat):Int)
   have hm:=ZGn l hk
   have e:=ZA3 l k
   have et:(((k+1:Nat):Int)).toNat=k+1:=by omega
   by_cases hb:4096<(Zs l (k+1)).length
   ·have es:ZBi l ((k+1:Nat):Int)=([],17):=by unfold ZBi;rw [if_neg (by omega),if_neg (by omega),et,if_pos hb]
    rw [es] at c1
    ((repeat' (first|(apply WL.opN;exact yF;dsimp only [ZB,z0,z1])|refine WL.nil ?_|refine ZA fun Kx hK=>?_|(refine hK _ _ ?_;clear hK)|refine WC.region ?_|(apply WL.opN;(focus ((first|(apply SY.call (c1) Tryz.call38;(exact aD))|((first|apply SY.move|apply SY.assign|apply SY.leq|apply SY.gtr|apply SY.neq) <;> (exact oD))|(apply SY.extract;(exact oD);rfl)|fail);all_goals infer_instance));dsimp only [ZB,z0,z1])|(apply WC.condD;(exact oD);all_goals (intro h;try exact xD))|(apply WC.condN;(exact oD);all_goals (intro h;try exact xD))|refine WC.skip ?_|refine WC.ret ?_|refine WC.block ?_|refine ThenD.r ?_|refine InBlockD.r ?_));all_goals (first|((repeat clear hK);(repeat clear Kx))))
    all_goals first|(exfalso;omega)|skip
    (refine ⟨trivial,_,rfl,?_⟩;refine FinD.b ?_)
    rw [decide_eq_true (by omega)]
   ·have es:ZBi l ((k+1:Nat):Int)=(Zs l (k+1),0):=by unfold ZBi;rw [if_neg (by omega),if_neg (by omega),et,if_neg hb]
    rw [es] at c1
    generalize Zs l (k+1)=A at *
    ((repeat' (first|(apply WL.opN;exact yF;dsimp only [ZB,z0,z1])|refine WL.nil ?_|refine ZA fun Kx hK=>?_|(refine hK _ _ ?_;clear hK)|refine WC.region ?_|(apply WL.opN;(focus ((first|(apply SY.call (c1) Tryz.call38;(exact aD))|((first|apply SY.move|apply SY.assign|apply SY.leq|apply SY.gtr|apply SY.neq) <;> (exact oD))|((first|apply SY.add) <;> first|exact oD|omega)|(apply SY.len;(exact oD);(exact nD);(exact uD))|(apply SY.extract;(exact oD);rfl)|fail);all_goals infer_instance));dsimp only [ZB,z0,z1])|(apply WC.condD;(exact oD);all_goals (intro h;try exact xD))|(apply WC.condN;(exact oD);all_goals (intro h;try exact xD))|refine WC.skip ?_|refine WC.block ?_|refine ThenD.n ?_));all_goals (first|((repeat clear hK);(repeat clear Kx))))
    all_goals first|(exfalso;omega)|skip
    (refine ⟨(k+1,n+A.length),?_,by first|omega|(simp only;omega),rfl,?_⟩;rotate_left;((try dsimp only [ZQ,z0,z1]);repeat (first|exact LeF.nil|refine ZD (k:=?_)));(try dsimp only))
    exact ⟨by omega,by show n+_=_;rw [e,<- h3],by show n+_≤_;omega⟩
  ·obtain rfl:k=8:=by omega
   subst h3
   ((repeat' (first|(apply WL.opN;exact yF;dsimp only [ZB,z0,z1])|refine WL.nil ?_|refine ZA fun Kx hK=>?_|(refine hK _ _ ?_;clear hK)|(refine Kont.skip ?_;clear hK)|refine WC.region ?_|(apply WL.opN;(focus ((first|((first|apply SY.move|apply SY.assign|apply SY.leq|apply SY.gtr|apply SY.neq) <;> (exact oD))|fail);all_goals infer_instance));dsimp only [ZB,z0,z1])|(apply WC.condD;(exact oD);all_goals (intro h;try exact xD))|refine WC.ret ?_|refine WC.exit ?_));all_goals (first|((repeat clear hK);(repeat clear Kx))))
   (refine ⟨trivial,_,rfl,?_⟩;refine FinD.b ?_)
   exact decide_eq_decide.2 (by omega)
theorem ZOH (a b:List Vx):Fn Tryz.prog 53 [dS ZJ a,dS ZJ b] (dB (decide (ZAB a b=0))):=by
 (refine ZG Tryz.func53 rfl rfl ?_;simp only [Tryz.ntmps53,List.length_cons,List.length_nil,Nat.reduceAdd,Nat.reduceSub,List.replicate_succ,List.replicate_zero,List.cons_append,List.nil_append])
 ((repeat' (first|(apply WL.opN;exact yF;dsimp only [ZB,z0,z1])|refine WL.nil ?_|refine ZA fun Kx hK=>?_|(refine hK _ _ ?_;clear hK)|refine WC.region ?_|(apply WL.opN;(focus ((first|(apply SY.call (ZDg a b) Tryz.call35;(exact aD))|((first|apply SY.move|apply SY.assign|apply SY.eql) <;> (exact oD))|fail);all_goals infer_instance));dsimp only [ZB,z0,z1])|refine WC.ret ?_));all_goals (first|((repeat clear hK);(repeat clear Kx))))
 (refine ⟨trivial,_,rfl,?_⟩;exact fD)
end
section
open Go.RowKit

set_option maxHeartbeats 8000000 in
theorem ZPi (l m:Cx):Fn Tryz.prog 52 [dS ZBN l,dS ZBN m,dEqL] (dB (decide (l=m))):=by
 (refine ZG Tryz.func52 rfl rfl ?_;simp only [Tryz.ntmps52,List.length_cons,List.length_nil,Nat.reduceAdd,Nat.reduceSub,List.replicate_succ,List.replicate_zero,List.cons_append,List.nil_append])
 by_cases hl:l.length=m.length
 ·(repeat' (first|(apply WL.opN;exact yF;dsimp only [ZB,z0,z1])|refine WL.nil ?_|refine ZA fun Kx hK=>?_|(refine hK _ _ ?_;clear hK)|refine WC.region ?_|(apply WL.opN;(focus ((first|((first|apply SY.move|apply SY.assign|apply SY.lss|apply SY.neq|apply SY.not) <;> (exact oD))|(apply SY.len;(exact oD);(exact nD);(exact uD))|fail);all_goals infer_instance));dsimp only [ZB,z0,z1])|(apply WC.condN;(exact oD);all_goals (intro h;try exact xD))|refine WC.skip ?_|refine WC.block ?_))
  all_goals first|(exfalso;omega)|skip
  (first|refine ZV (t:=0) rfl ZGA fun hl0=>?_|refine ZV (t:=0) rfl ZF5 fun hl0=>?_|refine ZV (t:=0) rfl ZRq fun hl0=>?_);simp only [maxLen] at hl0
  (refine ZH (X:=Nat) (fun k=>[(17,dI (k:Int)),(6,dA),(7,dA),(8,dA),(9,dA),(18,dA),(19,dA),(20,dA),(21,dA),(22,dA),(23,dA),(24,dA),(25,dA),(26,dA),(27,dA),(28,dA),(29,dA),(30,dA),(31,dA)]) (fun k=>[]) (fun k=>l.length-k) (fun k=>k≤l.length/\l.take k=m.take k) 0 ?start ?frame0 ?objs0 ?round)
  case start=>exact ⟨Nat.zero_le _,rfl⟩
  case frame0=>((try dsimp only [ZQ,z0,z1]);repeat (first|exact LeF.nil|refine ZD (k:=?_)))
  case objs0=>rfl
  case round =>
   rintro k ⟨h1,h2⟩
   dsimp only [ZQ,z0,z1]
   by_cases hk:k<l.length
   ·have hkm:k<m.length:=by omega
    ((repeat' (first|(apply WL.opN;exact yF;dsimp only [ZB,z0,z1])|refine WL.nil ?_|refine ZA fun Kx hK=>?_|(refine hK _ _ ?_;clear hK)|refine WC.region ?_|(apply WL.opN;(focus ((first|(apply ZAu (x:=(l[k],m[k])) (OpD.t rfl);exact ArgsD.cons (OpD.t rfl) (ArgsD.cons (OpD.t rfl) ArgsD.nil))|((first|apply SY.move|apply SY.assign|apply SY.lss|apply SY.neq|apply SY.not) <;> (exact oD))|((first|apply SY.add) <;> first|exact oD|omega)|(apply SY.ix;(exact eD);(exact oD);(exact oD);exact kD)|fail);all_goals infer_instance));dsimp only [ZB,z0,z1])|(apply WC.condD;(exact oD);all_goals (intro h;try exact xD))|(apply WC.condN;(exact oD);all_goals (intro h;try exact xD))|refine WC.skip ?_|refine WC.ret ?_|refine WC.block ?_|refine ThenD.n ?_|refine ThenD.r ?_|refine InBlockD.r ?_));all_goals (first|((repeat clear hK);(repeat clear Kx))))
    ·(refine ⟨trivial,_,rfl,?_⟩;refine FinD.b ?_)
     rw [decide_eq_false (fun hh=>h (by simp only [hh]))]
    ·(refine ⟨k+1,?_,by first|omega|(simp only;omega),rfl,?_⟩;rotate_left;((try dsimp only [ZQ,z0,z1]);repeat (first|exact LeF.nil|refine ZD (k:=?_)));(try dsimp only))
     exact ⟨by omega,by rw [ZU hk,ZU hkm,h2,h]⟩
   ·rw [List.take_of_length_le (by omega),List.take_of_length_le (by omega)] at h2
    ((repeat' (first|(apply WL.opN;exact yF;dsimp only [ZB,z0,z1])|refine WL.nil ?_|refine ZA fun Kx hK=>?_|(refine hK _ _ ?_;clear hK)|(refine Kont.skip ?_;clear hK)|refine WC.region ?_|(apply WL.opN;(focus ((first|((first|apply SY.move|apply SY.assign|apply SY.lss|apply SY.neq|apply SY.not) <;> (exact oD))|fail);all_goals infer_instance));dsimp only [ZB,z0,z1])|(apply WC.condD;(exact oD);all_goals (intro h;try exact xD))|refine WC.ret ?_|refine WC.exit ?_));all_goals (first|((repeat clear hK);(repeat clear Kx))))
    (refine ⟨trivial,_,rfl,?_⟩;refine FinD.b ?_)
    rw [decide_eq_true h2]
 ·((repeat' (first|(apply WL.opN;exact yF;dsimp only [ZB,z0,z1])|refine WL.nil ?_|refine ZA fun Kx hK=>?_|(refine hK _ _ ?_;clear hK)|refine WC.region ?_|(apply WL.opN;(focus ((first|((first|apply SY.move|apply SY.assign|apply SY.lss|apply SY.neq|apply SY.not) <;> (exact oD))|(apply SY.len;(exact oD);(exact nD);(exact uD))|fail);all_goals infer_instance));dsimp only [ZB,z0,z1])|(apply WC.condN;(exact oD);all_goals (intro h;try exact xD))|refine WC.ret ?_|refine ThenD.r ?_));all_goals (first|((repeat clear hK);(repeat clear Kx))))
  all_goals first|(exfalso;omega)|skip
  (refine ⟨trivial,_,rfl,?_⟩;refine FinD.b ?_)
  rw [decide_eq_false (fun h=>hl (by rw [h]))]
theorem ZQY (l m:Cx):Fn Tryz.prog 24 [dS Cpx l,dS Cpx m] (dB (decide (l=m))):=by
 (refine ZG Tryz.func24 rfl rfl ?_;simp only [Tryz.ntmps24,List.length_cons,List.length_nil,Nat.reduceAdd,Nat.reduceSub,List.replicate_succ,List.replicate_zero,List.cons_append,List.nil_append])
 have hs:∀ x:List Vx × List Vx,Fn Tryz.prog 53 [dS ZJ x.1,dS ZJ x.2] (dB (decide (x.1=x.2))):=fun x=>by
  have:=ZOH x.1 x.2
  rwa [decide_eq_decide.2 (ZA2 (a:=x.1) (b:=x.2))] at this
 have c1:=ZPi l m
 ((repeat' (first|(apply WL.opN;exact yF;dsimp only [ZB,z0,z1])|refine WL.nil ?_|refine ZA fun Kx hK=>?_|(refine hK _ _ ?_;clear hK)|refine WC.region ?_|(apply WL.opN;(focus ((first|(apply SY.call c1 Tryz.call52;exact ArgsD.cons (OpD.t rfl) (ArgsD.cons (OpD.t rfl) (ArgsD.cons ⟨ZIq Tryz.call53 hs⟩ ArgsD.nil)))|(apply ZAd ZA9;exact OpD.t rfl)|(apply SY.box;(exact oD);(exact hD))|fail);all_goals infer_instance));dsimp only [ZB,z0,z1])|refine WC.ret ?_));all_goals (first|((repeat clear hK);(repeat clear Kx))))
 (refine ⟨trivial,_,rfl,?_⟩;exact fD)
end
section
open Go.RowKit

def ZHI (y s:List Vx):Bool:=if orI [ZAL y,ZAL s]≠0 then false else decide (((y.filter fun x=>decide (x∈s)).length:Int)=y.length)
theorem ZG1 (s y:List Vx) (hy:y.length≤100):Fn Tryz.prog 47 [dS ZJ s,dP 1 false (dS ZJ y)] (dB (ZHI y s)):=by
 (refine ZG Tryz.func47 rfl rfl ?_;simp only [Tryz.ntmps47,List.length_cons,List.length_nil,Nat.reduceAdd,Nat.reduceSub,List.replicate_succ,List.replicate_zero,List.cons_append,List.nil_append])
 have c:=ZSl y s hy
 unfold ZHI
 ((repeat' (first|(apply WL.opN;exact yF;dsimp only [ZB,z0,z1])|refine WL.nil ?_|refine ZA fun Kx hK=>?_|(refine hK _ _ ?_;clear hK)|refine WC.region ?_|(apply WL.opN;(focus ((first|(apply SY.call (c) Tryz.call48;(exact aD))|(apply SY.extract;(exact oD);rfl)|fail);all_goals infer_instance));dsimp only [ZB,z0,z1])|refine WC.ret ?_));all_goals (first|((repeat clear hK);(repeat clear Kx))))
 (refine ⟨trivial,_,rfl,?_⟩;exact fD)
abbrev ZQ0 (l:Cx) (p:List Vx->Bool):Dat:=ZKS Tryz.prog (fun i:{i:List Vx // i∈l}=>[dS ZJ i.1]) (fun i=>dB (p i.1))
theorem ZSt (l:Cx) (p:List Vx->Bool):Fn Tryz.prog 77 [dS ZBN l,ZQ0 l p] (dI (ZJj p 0 l)):=by
 (refine ZG Tryz.func77 rfl rfl ?_;simp only [Tryz.ntmps77,List.length_cons,List.length_nil,Nat.reduceAdd,Nat.reduceSub,List.replicate_succ,List.replicate_zero,List.cons_append,List.nil_append])
 (repeat' (first|(apply WL.opN;exact yF;dsimp only [ZB,z0,z1])|refine WL.nil ?_|refine ZA fun Kx hK=>?_|(refine hK _ _ ?_;clear hK)|refine WC.region ?_|(apply WL.opN;(focus ((first|(apply SY.len;(exact oD);(exact nD);(exact uD))|fail);all_goals infer_instance));dsimp only [ZB,z0,z1])|refine WC.block ?_))
 (first|refine ZV (t:=0) rfl ZGA fun hl0=>?_|refine ZV (t:=0) rfl ZF5 fun hl0=>?_|refine ZV (t:=0) rfl ZRq fun hl0=>?_);simp only [maxLen] at hl0
 (refine ZH (X:=Nat) (fun k=>[(8,dI (k:Int)),(4,dA),(5,dA),(9,dA),(10,dA),(11,dA),(12,dA),(13,dA),(14,dA),(15,dA),(16,dA),(17,dA),(18,dA)]) (fun k=>[]) (fun k=>l.length-k) (fun k=>k≤l.length/\ZJj p 0 l=ZJj p k (l.drop k)) 0 ?start ?frame0 ?objs0 ?round)
 case start=>exact ⟨Nat.zero_le _,rfl⟩
 case frame0=>((try dsimp only [ZQ,z0,z1]);repeat (first|exact LeF.nil|refine ZD (k:=?_)))
 case objs0=>rfl
 case round =>
  rintro k ⟨h1,h2⟩
  dsimp only [ZQ,z0,z1]
  ((repeat' (first|(apply WL.opN;exact yF;dsimp only [ZB,z0,z1])|refine WL.nil ?_|refine ZA fun Kx hK=>?_|(refine hK _ _ ?_;clear hK)|(refine Kont.skip ?_;clear hK)|refine WC.region ?_|(apply WL.opN;(focus ((first|(apply ZAu (x:=(⟨l[k],List.getElem_mem _⟩:{i:List Vx // i∈l}));(exact OpD.t rfl);(exact aD))|((first|apply SY.move|apply SY.assign|apply SY.lss) <;> (exact oD))|((first|apply SY.add) <;> first|exact oD|omega)|(apply SY.ix;(exact eD);(exact oD);(exact oD);exact kD)|fail);all_goals infer_instance));dsimp only [ZB,z0,z1])|(apply WC.condD;(exact oD);all_goals (intro h;try exact xD))|(apply WC.cond;(exact oD);all_goals (intro h;try exact xD))|refine WC.skip ?_|refine WC.ret ?_|refine WC.exit ?_|refine WC.block ?_|refine ThenD.n ?_|refine ThenD.r ?_|refine InBlockD.r ?_));all_goals (first|((repeat clear hK);(repeat clear Kx))))
  ·(refine ⟨trivial,_,rfl,?_⟩;refine FinD.i ?_)
   rw [h2,ZCY (by omega),if_pos h]
  ·(refine ⟨k+1,?_,by first|omega|(simp only;omega),rfl,?_⟩;rotate_left;((try dsimp only [ZQ,z0,z1]);repeat (first|exact LeF.nil|refine ZD (k:=?_)));(try dsimp only))
   exact ⟨by omega,by rw [h2,ZCY (by omega),if_neg (by simp [h])]⟩
  ·(refine ⟨trivial,_,rfl,?_⟩;refine FinD.i ?_)
   rw [h2,List.drop_of_length_le (by omega)];rfl
theorem ZSd (l:Cx) (p:List Vx->Bool):Fn Tryz.prog 46 [dS ZBN l,ZQ0 l p] (dB (l.any p)):=by
 (refine ZG Tryz.func46 rfl rfl ?_;simp only [Tryz.ntmps46,List.length_cons,List.length_nil,Nat.reduceAdd,Nat.reduceSub,List.replicate_succ,List.replicate_zero,List.cons_append,List.nil_append])
 ((repeat' (first|(apply WL.opN;exact yF;dsimp only [ZB,z0,z1])|refine WL.nil ?_|refine ZA fun Kx hK=>?_|(refine hK _ _ ?_;clear hK)|refine WC.region ?_|(apply WL.opN;(focus ((first|(apply SY.call (ZSt _ _) Tryz.call77;(exact aD))|((first|apply SY.move|apply SY.assign|apply SY.geq) <;> (exact oD))|fail);all_goals infer_instance));dsimp only [ZB,z0,z1])|refine WC.ret ?_));all_goals (first|((repeat clear hK);(repeat clear Kx))))
 all_goals ((refine ⟨trivial,_,rfl,?_⟩;refine FinD.b ?_);exact ZFD _ _)
end
section
open Go.RowKit

theorem ZTC:110<Tryz.prog.types.size:=of_decide_eq_true (by kernel_rfl)
theorem ZMu:Tryz.prog.cellsOf 110=16:=by kernel_rfl
theorem ZRu (d:Nat) {s:List Vx} (h:okK s):∃ l,Tryz.prog.keyLits (d+3) 110 (ZT (ZFs s))=some l:=by
 have hl:(ZT (ZFs s)).length=16:=by rw [ZY,ZBa h.1]
 unfold Program.keyLits
 simp only [Tryz.underlying110,ZMu,hl]
 simp only [if_true,ZG8]
 rw [ZHU (g:=fun i=>[Lit.int .i64 ((ZFs s).getD i (0,0)).1,Lit.int .i64 ((ZFs s).getD i (0,0)).2]) _ fun i hi=>?_]
 ·exact ⟨_,rfl⟩
 ·have hi':i<(ZFs s).length:=by rw [ZBa h.1];exact List.mem_range.1 hi
  rw [ZHK _ i hi',ZNh d (ZNv h _ (List.getElem_mem hi'))]
  simp [List.getD,hi']
theorem ZDq:KeyT Tryz.prog 110 kvK okK where
 law:=Go.Maps.Keyed.of_law (deep_law_laid ZRo (m:=3) (by omega) ZTC (by kernel_rfl) (by rw [Tryz.underlying110]))
 lit:=fun s h=>by
  obtain ⟨d,hd⟩:∃ d,Tryz.prog.types.size=d+2:=⟨Tryz.prog.types.size-2,by have:=ZTC;omega⟩
  obtain ⟨l,hl⟩:=ZRu d h
  refine ⟨.string (keyBytes l),?_⟩
  unfold keyOf
  simp only [Tryz.underlying110]
  have hk:Tryz.prog.keyType 110=true:=by kernel_rfl
  have hf:(kvK s).formed Tryz.prog 110=true:=by
   simp [kvK,Value.formed,Tryz.underlying110,ZMu,ZY,ZBa h.1]
  rw [hk,hf,hd]
  simp only [Bool.and_self,if_true]
  rw [show (kvK s).cells.toList=ZT (ZFs s) from rfl,hl]
  rfl
 inj:=fun x y hx hy h=>by
  unfold kvK at h
  injection h with h
  exact ZKv (fun v hv=>(hx.2 v hv).2) (fun v hv=>(hy.2 v hv).2) (ZFi (List.toArray_inj h))
theorem ZPQ:ArrT Tryz.prog 110 47 41:=by
 constructor
 ·intro b i w h
  have h1:(0:Int)≤(i:Int)/\(i:Int)<8:=by omega
  go_simp
 ·intro b w;go_simp
 ·kernel_rfl
 ·exact Tryz.isAgg110
 ·exact Tryz.underlying41
 ·kernel_rfl
section
variable {P:Program} {ops:Array Oper} {hp:List HObj} {o:Oper} {fr:List Dat} {d d2:Dat} {Q:ZAE} {rest:List Oper}
variable {dst:Option Tmp} {ty:TypeId} {ps:String} {af:Array Edge} {g:Option (Nat × Bool)} {T T2 V S:TypeId} {b off:Nat} {cs:List Value}
theorem ZLO {p:Tmp} {x:Operand} {y:Vx} (T':TyI P T 2 true) (hp0:OpD fr (.tmp p) (dX (.pointer (some ⟨b,off,none⟩)))) (hx:OpD fr x (dS RV y)) (ho:off+2≤cs.length)
  (h:WL P ops Q rest (ZB fr dst (dX undef)) (hA b T2 (cs.take off++[.int .i64 y.1,.int .i64 y.2]++cs.drop (off+2))::hp)) :
  WL P ops Q (⟨dst,.store T (.tmp p) x,ty,ps,af,none⟩::rest) fr (hA b T2 cs::hp):=by
 refine WL.of fun P0 B w0 w a hh hf=>?_
 have h1:a.eval (.tmp p)=_:=hp0.ev hf
 have h2:a.eval x = .agg #[.int .i64 y.1,.int .i64 y.2]:=hx.ev hf
 have hb:w.heap[b]?=some (.cells cs.toArray T2):=hh.ok (hA b T2 cs) (by simp)
 have hth:w.there b off 2:=fun j hj=>⟨by simp [World.cell?,hb];omega,by simp [World.frozen?,hb]⟩
 have hst:=run_storeVar_mid (P:=P) w b off T #[.int .i64 y.1,.int .i64 y.2] hth (by simpa using T'.size) (by simp [Value.oneCell'])
 have e:cs=cs.take off++(cs.drop off).take 2++cs.drop (off+2):=by rw [List.append_assoc,<- List.drop_drop,List.take_append_drop,List.take_append_drop]
 have hlen:(cs.take off).length=off:=by rw [List.length_take];omega
 have hb2:=hb
 rw [e] at hb2
 have hmid:=ZAt (e:=T2) (fz:=(0,0)) [.int .i64 y.1,.int .i64 y.2] ((cs.drop off).take 2) (cs.take off) (cs.drop (off+2)) w (by simp;omega) hb2
 rw [hlen] at hmid
 have hrun:(execOp a.eval ⟨dst,.store T (.tmp p) x,ty,ps,af,none⟩).run P w = .ok .skip (w.setCells b off [.int .i64 y.1,.int .i64 y.2]):=by
  unfold execOp
  simp only [h1,h2,Instr.storeAt,Instr.sureAddr,Sem.run_bind,Sem.run_pure,Result.andThen_ok,hst]
 refine wpList_plain rfl fun K hK=>?_
 unfold Oper.wp
 rw [hrun]
 have hgr:w.grownBy (w.setCells b off [.int .i64 y.1,.int .i64 y.2]) (hA b T2 cs).blk:=ZEG
 have hok:(hA b T2 (cs.take off++[.int .i64 y.1,.int .i64 y.2]++cs.drop (off+2))).ok (fun k=>Imm P0 B (hA b T2 cs::hp) k/\k<w.heap.size) (w.setCells b off [.int .i64 y.1,.int .i64 y.2]):=hmid
 exact hK _ _ (h.on (hh.write hgr (.inl rfl) hok) (Fr.put (hf.mono fun _ _ hd=>ZN (o':=hA b T2 (cs.take off++[.int .i64 y.1,.int .i64 y.2]++cs.drop (off+2))) hgr (.inl rfl) hd) (d:=dX undef) rfl))
end
theorem tyK2:TyI Tryz.prog 110 16 true:=⟨by kernel_rfl,Tryz.isAgg110⟩
theorem tzK2:TyZ Tryz.prog 110 (.agg (ZT (List.replicate 8 (0,0))).toArray):=⟨by kernel_rfl⟩
theorem ZLi {k:Nat} (h:k<8):(ZT (ZJr k)).take (k*2)++[.int .i64 (-1),.int .i64 0]++(ZT (ZJr k)).drop (k*2+2)=ZT (ZJr (k+1)):=by
 have:k=0\/k=1\/k=2\/k=3\/k=4\/k=5\/k=6\/k=7:=by omega
 rcases this with rfl|rfl|rfl|rfl|rfl|rfl|rfl|rfl <;> rfl
theorem ZNp (s:List Vx) (hs:s.length≤8):Fn Tryz.prog 73 [dS ZJ s] (dX (kvK s)):=by
 refine ZEL tyK2 Tryz.func73 rfl rfl ?_
 simp only [Tryz.ntmps73,List.length_cons,List.length_nil,Nat.reduceAdd,Nat.reduceSub,List.replicate_succ,List.replicate_zero,List.cons_append,List.nil_append]
 refine ZA fun Kx hK=>?_
 refine WC.region ?_
 refine WL.alloc tzK2 (ZEh (by simp)) fun b2=>?_
 dsimp only [ZB,z0,z1]
 (repeat' (first|(apply WL.opN;exact yF;dsimp only [ZB,z0,z1])|refine WL.nil ?_|refine ZA fun Kx hK=>?_|(refine hK _ _ ?_;clear hK)|refine WC.region ?_ |  (refine ZIG (n:=16) tzK2 (ZEh (by simp)) fun b3=>?_;dsimp only [ZB,z0,z1])|refine WC.block ?_))
 (refine ZH (X:=Nat) (fun k=>[(5,dI (k:Int)),(4,dA),(6,dA),(7,dA),(8,dA),(9,dA),(10,dA),(11,dA)]) (fun k=>[hA b3 110 (ZT (ZJr k)),ZO b2 110 16 true (dX (.agg (ZT (List.replicate 8 (0,0))).toArray))]) (fun k=>8-k) (fun k=>k≤8) 0 ?start ?frame0 ?objs0 ?round)
 case start=>exact Nat.zero_le _
 case frame0=>((try dsimp only [ZQ,z0,z1]);repeat (first|exact LeF.nil|refine ZD (k:=?_)))
 case objs0=>rfl
 case round =>
  rintro k h1
  dsimp only [ZQ,z0,z1]
  ((repeat' (first|(apply WL.opN;exact yF;dsimp only [ZB,z0,z1])|refine WL.nil ?_|refine ZA fun Kx hK=>?_|(refine hK _ _ ?_;clear hK)|(refine Kont.skip ?_;clear hK)|refine WC.region ?_ |  (refine ZLO (y:=(-1,0)) tyV (OpD.t rfl) (OpD.t rfl) (by rw [ZY];simp [ZJr];omega) ?_;rw [ZLi (by omega)];dsimp only [ZB]) |  (refine WL.copyA ZPQ (OpD.t rfl) (OpD.t rfl) hs (by rw [ZY];simp [ZJr];omega) ?_;dsimp only [ZB,z0,z1])|(apply WL.opN;(focus ((first|(apply ZQr ZPQ;exact OpD.t rfl;exact OpD.t rfl;rfl;omega)|(apply ZBB vxT;exact OpD.i)|(apply ZIE ZPQ;exact OpD.t rfl)|((first|apply SY.move|apply SY.assign|apply SY.lss) <;> (exact oD))|((first|apply SY.add) <;> first|exact oD|omega)|fail);all_goals infer_instance));dsimp only [ZB,z0,z1])|(apply WC.condD;(exact oD);all_goals (intro h;try exact xD))|refine WC.skip ?_|refine WC.exit ?_|refine WC.block ?_|refine ThenD.n ?_));all_goals (first|refine WL.id ?_|((repeat clear hK);(repeat clear Kx))))
  ·(refine ⟨k+1,?_,by first|omega|(simp only;omega),rfl,?_⟩;rotate_left;((try dsimp only [ZQ,z0,z1]);repeat (first|exact LeF.nil|refine ZD (k:=?_)));(try dsimp only))
   omega
  ·have h8:k=8:=by omega
   subst h8
   have e:ZT s++(ZT (ZJr 8)).drop (s.length*2)=ZT (ZFs s):=by
    rw [ZEZ,<- ZAq]
    unfold ZFs ZJr
    rw [show (8:Nat)-8=0 from rfl,List.replicate_zero,List.append_nil,List.drop_replicate]
   rw [e]
   refine WL.op rfl (ZJ6 ZPQ (OpD.t rfl) (.head _) (by rw [ZY,ZBa hs]) (ZCX _)) ?_
   dsimp only [ZB,z0,z1]
   refine WL.perm (List.Perm.swap _ _ _) ?_
   refine ZI tyK2 rfl (OpD.t rfl) (ZEh (ZBa hs)) ?_
   dsimp only [ZB,z0,z1]
   refine WL.nil (hK _ _ ?_)
   exact WC.ret ⟨trivial,_,rfl,ZL4 rfl⟩
end
section
def ZB2 (m:ZLH) (x:List Vx):ZLH:=if (lookM m x).isSome then ZDr m x ((lookM m x).getD 0+1) else m
theorem ZMs (m:ZLH) (x t:List Vx):lookM (ZB2 m x) t=(lookM m t).map fun n=>if t=x then n+1 else n:=by
 unfold ZB2
 cases hx:lookM m x with
 | none =>
  rw [if_neg (by simp)]
  by_cases h:t=x
  ·subst h;rw [hx];rfl
  ·simp only [if_neg h]
   cases lookM m t <;> rfl
 | some n =>
  rw [if_pos (by simp),ZEe]
  by_cases h:t=x
  ·subst h;rw [if_pos rfl,hx];simp
  ·rw [if_neg h]
   simp only [if_neg h]
   cases lookM m t <;> rfl
theorem ZET:∀ (o:Cx) (m:ZLH) (t:List Vx),lookM (o.foldl ZB2 m) t=(lookM m t).map fun n=>n+(o.count t:Int)
 | [],m,t=>by cases h:lookM m t <;> simp [h]
 | x::o,m,t=>by
  rw [List.foldl_cons,ZET o,ZMs]
  cases lookM m t with
  | none=>rfl
  | some n =>
   simp only [Option.map_some]
   by_cases h:t=x
   ·subst h;rw [if_pos rfl,List.count_cons_self];congr 1;omega
   ·rw [if_neg h,List.count_cons_of_ne (fun e=>h e.symm)]
theorem ZMr (m:ZLH) (hn:(m.map (·.1)).Nodup) (x:List Vx):((ZB2 m x).map (·.1)).Nodup/\∀ u,u∈(ZB2 m x).map (·.1)↔u∈m.map (·.1):=by
 unfold ZB2
 by_cases h:(lookM m x).isSome=true
 ·rw [if_pos h]
  have hk:=ZI0 (x:=x) (v:=(lookM m x).getD 0+1) hn
  refine ⟨hk.1,fun u=>(hk.2 u).trans ⟨?_,.inr⟩⟩
  rintro (rfl|hu)
  ·exact ZBz.1 h
  ·exact hu
 ·rw [if_neg h]
  exact ⟨hn,fun _=>Iff.rfl⟩
theorem ZDO:∀ (o:Cx) (m:ZLH),(m.map (·.1)).Nodup->((o.foldl ZB2 m).map (·.1)).Nodup/\∀ u,u∈(o.foldl ZB2 m).map (·.1)↔u∈m.map (·.1)
 | [],_,hn=>⟨hn,fun _=>Iff.rfl⟩
 | x::o,m,hn=>by
  obtain ⟨h1,h2⟩:=ZMr m hn x
  obtain ⟨h3,h4⟩:=ZDO o _ h1
  exact ⟨h3,fun u=>(h4 u).trans (h2 u)⟩
def ZCx (m:ZLH) (x:List Vx):ZLH:=ZDr m x 0
theorem ZDb:∀ (o:Cx) (m:ZLH) (t:List Vx),lookM (o.foldl ZCx m) t=if t∈o then some 0 else lookM m t
 | [],m,t=>by rw [if_neg (by simp)];rfl
 | x::o,m,t=>by
  rw [List.foldl_cons,ZDb o]
  by_cases h:t∈o
  ·rw [if_pos h,if_pos (List.mem_cons_of_mem _ h)]
  ·rw [if_neg h]
   unfold ZCx
   rw [ZEe]
   by_cases hx:t=x
   ·rw [if_pos hx,if_pos (by rw [hx];exact List.mem_cons_self ..)]
   ·rw [if_neg hx,if_neg (by rw [List.mem_cons];rintro (q|q);exact hx q;exact h q)]
theorem ZDa:∀ (o:Cx) (m:ZLH),(m.map (·.1)).Nodup->((o.foldl ZCx m).map (·.1)).Nodup
 | [],_,hn=>hn
 | _::o,_,hn=>ZDa o _ (ZI0 hn).1
def ZCw (s:List Vx):Cx:=if 1<s.length then (List.range s.length).map (ZAv s) else []
def ZBu (l:Cx):Cx:=l.flatMap ZCw
def ZIy (s:List Vx):Cx:=(List.range (s.length-1)).flatMap fun k=>ZX (k+1) s
def ZEy (l:Cx):Cx:=l.flatMap ZIy
def ZF4 (l:Cx):ZLH:=(ZEy l).foldl ZB2 ((ZBu l).foldl ZCx [])
theorem ZIb (l:Cx) (t:List Vx):lookM (ZF4 l) t=if t∈ZBu l then some ((ZEy l).count t:Int) else none:=by
 unfold ZF4
 rw [ZET,ZDb]
 by_cases h:t∈ZBu l
 ·rw [if_pos h,if_pos h];simp
 ·rw [if_neg h,if_neg h];rfl
theorem ZM6 (l:Cx):((ZF4 l).map (·.1)).Nodup:=(ZDO _ _ (ZDa _ [] (List.Pairwise.nil))).1
theorem ZGc {s:List Vx} (i:Nat):ZAv s i=s.eraseIdx i:=by unfold ZAv;rw [List.eraseIdx_eq_take_drop_succ]
theorem ZDX {s:List Vx} {i:Nat} (h:i<s.length):(ZAv s i).length=s.length-1:=by rw [ZGc,List.length_eraseIdx_of_lt h]
theorem ZDY (s:List Vx) (i:Nat):(ZAv s i).Sublist s:=by rw [ZGc];exact List.eraseIdx_sublist ..
theorem ZLZ {s:List Vx} (ha:Asc s) {t:List Vx} (h0:0<t.length) (hl:t.length<s.length):(ZIy s).count t=if t∈ZX t.length s then 1 else 0:=by
 unfold ZIy
 have go:∀ n,((List.range n).flatMap fun k=>ZX (k+1) s).count t=if t.length≤n then (if t∈ZX t.length s then 1 else 0) else 0:=by
  intro n
  induction n with
  | zero=>rw [if_neg (by omega)];rfl
  | succ n ih =>
   rw [List.range_succ,List.flatMap_append,List.count_append,ih]
   simp only [List.flatMap_cons,List.flatMap_nil,List.append_nil]
   rw [ZLa ha]
   have hz:t.length≠n+1->(if t∈ZX (n+1) s then 1 else 0)=0:=fun h=>if_neg fun q=>h ((Z9 _ _ _).1 q).2
   by_cases h1:t.length≤n
   ·rw [hz (by omega),if_pos h1,if_pos (show t.length≤n+1 by omega),Nat.add_zero]
   ·rw [if_neg h1]
    by_cases h2:t.length=n+1
    ·rw [if_pos (show t.length≤n+1 by omega),h2,Nat.zero_add]
    ·rw [hz h2,if_neg (show ¬ t.length≤n+1 by omega)]
 rw [go,if_pos (by omega)]
theorem ZGN (f:List Vx->Cx) (t:List Vx):∀ l:Cx,(l.flatMap f).count t=(l.map fun s=>(f s).count t).sum
 | []=>rfl
 | s::l=>by rw [List.flatMap_cons,List.count_append,ZGN f t l,List.map_cons,List.sum_cons]
theorem ZGk (p:List Vx->Bool):∀ l:Cx,(l.map fun s=>if p s=true then 1 else 0).sum=(l.filter p).length
 | []=>rfl
 | s::l=>by
  rw [List.map_cons,List.sum_cons,ZGk p l]
  by_cases h:p s=true
  ·rw [if_pos h,List.filter_cons_of_pos h,List.length_cons];omega
  ·rw [if_neg h,List.filter_cons_of_neg h];omega
theorem ZND {l:Cx} (G:GoodX l) {t:List Vx} (ht:Asc t) (h0:0<t.length) (hn:t∉l):(ZEy l).count t=ZQu l t:=by
 unfold ZEy ZQu
 rw [ZGN,<- ZGk]
 congr 1
 refine List.map_congr_left fun s hs=>?_
 have ha:=G.asc s hs
 have hi:t∈ZX t.length s↔Zb t s=true:=by
  rw [Z9]
  exact ⟨fun q=>(ZAS ht ha).1 q.1,fun q=>⟨(ZAS ht ha).2 q,rfl⟩⟩
 by_cases hl:t.length<s.length
 ·rw [ZLZ ha h0 hl]
  simp only [hi]
 ·have hno:¬ Zb t s=true:=fun q=>by
   by_cases he:t=s
   ·subst he;exact hn hs
   ·exact hl (ZBe ht ha q he)
  rw [if_neg hno]
  refine List.count_eq_zero.2 fun q=>?_
  unfold ZIy at q
  obtain ⟨k,hk,hm⟩:=List.mem_flatMap.1 q
  have h1:=List.mem_range.1 hk
  have h2:=((Z9 _ _ _).1 hm).2
  omega
end
end Go.Proofs.YtokmalofdapffaaGreat
