/- Part 2 of the proof. -/
import Derived.Test.YtofkoleingbbpaaGreatDoorZa17
import Derived.Test.YtofkoleingbbpaaGreatDoorZd1
set_option linter.all false
set_option maxRecDepth 100000
set_option maxHeartbeats 64000000
namespace Go.Proofs.YtofkoleingbbpaaGreatDoor
section
open Go.RowKit

theorem ZP7 (u:Value) (l:Cx) (s:List Vx) (hl:l.length≤3000000):CallC Tryz.prog 137 [dX u,dS ZI s] [Zk u 22 ZI l] (fun d hp2=>∃v,d=dX v/\hp2=[Zk v 22 ZI (ZCb l s)]):=by
 refine ZEa (K:=fun d hp2=>∃v w ys,d=dX v/\hp2.Perm ([Zk w 22 ZI ys]++[Zk v 22 ZI (ZCb l s)])) ?_ (fun d hp2 ⟨v,w,ys,h1,h2⟩=>⟨_,_,h2,v,h1,rfl⟩);(refine ZAf Tryz.func137 rfl rfl (fun hp=>?_);simp only[Tryz.ntmps137,List.length_cons,List.length_nil,List.length_append,List.length_map,Nat.reduceAdd,Nat.reduceSub,List.replicate_succ,List.replicate_zero,List.cons_append,List.nil_append,List.map_cons,List.map_nil,List.append_assoc])
 (repeat' (first|refine zS ?_|refine ZA fun Kx hK=>?_|(refine hK _ _ ?_;clear hK)|refine ZVp ?_))
 refine Zn 22 ZI ?_;(refine ZV4 (X:=Nat × Bool × Value × Cx) (fun x=>[(7,dI (x.1:Int)),(6,dB x.2.1),(5,dX x.2.2.1),(4,dA),(8,dA),(9,dA),(10,dA),(11,dA),(12,dA),(13,dA),(14,dA),(15,dA),(16,dA),(17,dA),(18,dA),(19,dA),(20,dA),(21,dA),(22,dA),(23,dA),(24,dA),(25,dA),(26,dA),(27,dA),(28,dA),(29,dA),(30,dA),(31,dA),(32,dA),(33,dA),(34,dA),(35,dA),(36,dA),(37,dA),(38,dA),(39,dA),(40,dA)]) (fun x=>Zk x.2.2.1 22 ZI x.2.2.2::Zk u 22 ZI l::hp) (fun x=>l.length-x.1) (fun x=>x.1≤l.length/\(∀y∈l.take x.1,ZAa s y≠0)/\(x.2.1=false->x.2.2.2=l.take x.1/\∀y∈l.take x.1,¬ ZAa s y<0)/\(x.2.1=true->x.2.2.2++l.drop x.1=ZFJ l s)) (0,false,.slice none 0 0,[]) ?start ?frame0 ?objs0 ?round)
 case start=>exact⟨Nat.zero_le _,by simp,by simp,by simp⟩
 case frame0=>exact zFr
 case objs0=>rfl
 case round =>
  rintro⟨k,b,v,o⟩ ⟨h1,h2,h3,h4⟩;simp only at h1 h2 h3 h4;have hol:o.length≤l.length+1:=by
   cases b with
   | false=>rw[(h3 rfl).1,List.length_take];omega
   | true =>
    have:=congrArg List.length (h4 rfl);rw[List.length_append,ZGO] at this;omega
  dsimp only[ZH,z0,z1];((repeat' (first|refine zS ?_|refine ZA fun Kx hK=>?_|(refine hK _ _ ?_;clear hK)|(refine ZV0 ?_;clear hK)|((first|apply Zq|apply Zl);exact eD;exact ZVh rfl;exact oD;(intro _;exact hD);(exact(by simp));(exact(by simp));(first|exact⟨by decide,by decide⟩|skip);decide;exact lD;(intro _;dsimp only[ZC,z0,z1]);all_goals (try infer_instance))|(apply ZF;(focus (first|exact wN|(apply ZVt;exact wY;((first|(apply ZVm (ZHv _ _) Tryz.call77;exact aD)|(apply ZEV;exact ZB8;exact ZVh rfl;exact .tail _ (.head _);exact ZVh rfl;rfl;omega)|(apply ZGD;exact ZSY;exact ZVh rfl;exact .tail _ (.head _);omega)|exact ZCX|exact ZBF|exact ZHe|exact ZLC|exact ZBg|exact ZA3|exact ZCV|fail);all_goals infer_instance))));dsimp only[ZC,z0,z1])|((first|refine ZM rfl rfl rfl (fun h=>?_) (fun h=>?_)|refine ZL rfl rfl rfl (fun h=>?_) (fun h=>?_)|refine ZK rfl rfl rfl (fun h=>?_) (fun h=>?_)) <;> (first|(exfalso;first|omega|contradiction)|(dsimp only[z0,z1])))|(apply ZQ;exact oD;(with_reducible rfl))|(apply ZB;exact oD;all_goals (intro h;try exact xD))|(apply ZO;exact oD;all_goals (intro h;try exact xD))|refine ZVr ?_|refine ZVs ?_|refine ZV1 ?_|refine ZVp ?_|refine ZVx ?_|refine ZVz ?_|refine ZWC ?_));all_goals ((repeat clear hK);repeat clear Kx))
  ·have hs:s=l[k]:=ZBM.1 h;have e:ZCb l s=l:=if_pos (hs ▸ List.getElem_mem (show k<l.length by omega));exact⟨trivial,_,[_,_],rfl,rfl,u,v,o,rfl,by rw[e]⟩
  ·have hb:b=false:=by cases b <;> simp_all
   subst hb;have h0:=h3 rfl;(refine zNx (k+1,true,_,o++[s]++[l[k]]) ?_;(try dsimp only))
   refine⟨by omega,fun y hy=>?_,(fun e=>nomatch e),fun _=>?_⟩
   ·rcases(Zu (by omega)).1 hy with h'|rfl
    ·exact h2 y h'
    ·assumption
   ·show o++[s]++[l[k]]++l.drop (k+1)=ZFJ l s;rw[ZIm (by omega) h0.2 (by assumption),h0.1,Zv (show k<l.length by omega)];simp
  ·have hb:b=false:=by cases b <;> simp_all
   subst hb;have h0:=h3 rfl;(refine zNx (k+1,false,_,o++[l[k]]) ?_;(try dsimp only))
   refine⟨by omega,fun y hy=>?_,fun _=>⟨?_,fun y hy=>?_⟩,(fun e=>nomatch e)⟩
   ·rcases(Zu (by omega)).1 hy with h'|rfl
    ·exact h2 y h'
    ·assumption
   ·rw[h0.1,Ze (by omega)]
   ·rcases(Zu (by omega)).1 hy with h'|rfl
    ·exact h0.2 y h'
    ·assumption
  ·have hb:b=true:=by cases b <;> simp_all
   subst hb;have h0:=h4 rfl;(refine zNx (k+1,true,_,o++[l[k]]) ?_;(try dsimp only))
   refine⟨by omega,fun y hy=>?_,(fun e=>nomatch e),fun _=>?_⟩
   ·rcases(Zu (by omega)).1 hy with h'|rfl
    ·exact h2 y h'
    ·assumption
   ·show o++[l[k]]++l.drop (k+1)=ZFJ l s;rw[<- h0,Zv (show k<l.length by omega)];simp
  ·subst h;have h0:=h3 rfl;rw[List.take_of_length_le (by omega)] at h0 h2;have hs:s∉l:=fun hs=>h2 s hs (ZBM.2 rfl);have e:ZCb l s=o++[s]:=by unfold ZCb;rw[if_neg hs,ZIn h0.2,h0.1]
   exact⟨trivial,_,[_,_],rfl,rfl,_,_,_,rfl,by rw[e];exact List.Perm.swap _ _ _⟩
  ·subst h;have h0:=h4 rfl;rw[List.take_of_length_le (by omega)] at h2;rw[List.drop_eq_nil_of_le (by omega),List.append_nil] at h0;have hs:s∉l:=fun hs=>h2 s hs (ZBM.2 rfl);have e:ZCb l s=o:=by unfold ZCb;rw[if_neg hs,h0]
   exact⟨trivial,_,[_,_],rfl,rfl,_,_,_,rfl,by rw[e];exact List.Perm.swap _ _ _⟩
theorem ZTY (l:Cx) (k:Nat) (hl:l.length≤4096) (hs:∀f∈l,f.length≤8) (hk:k≤100):CallC Tryz.prog 108 [dS Cpx l,dI (k:Int)] [] (fun d hp2=>∃v,d=dX v/\hp2=[Zk v 22 ZI (ZAi l k)]):=by
 (refine ZAf Tryz.func108 rfl rfl (fun hp=>?_);simp only[Tryz.ntmps108,List.length_cons,List.length_nil,List.length_append,List.length_map,Nat.reduceAdd,Nat.reduceSub,List.replicate_succ,List.replicate_zero,List.cons_append,List.nil_append,List.map_cons,List.map_nil,List.append_assoc])
 (repeat' (first|refine zS ?_|refine ZA fun Kx hK=>?_|(refine hK _ _ ?_;clear hK)|(apply zV;(focus ((first|exact ZEL);all_goals infer_instance));exact zQ)|refine ZVp ?_))
 refine Zn 22 ZI ?_;(refine ZV4 (X:=Nat × Value × Cx) (fun x=>[(6,dI (x.1:Int)),(5,dX x.2.1),(7,dA),(8,dA),(9,dA),(10,dA),(11,dA),(12,dA),(13,dA),(14,dA),(15,dA),(16,dA),(17,dA),(18,dA),(19,dA),(20,dA),(21,dA),(22,dA),(23,dA),(24,dA),(25,dA),(26,dA),(27,dA),(28,dA),(29,dA),(30,dA),(31,dA),(32,dA),(33,dA),(34,dA),(35,dA),(36,dA),(37,dA),(38,dA),(39,dA),(40,dA),(41,dA),(42,dA)]) (fun x=>Zk x.2.1 22 ZI x.2.2::hp) (fun x=>l.length-x.1) (fun x=>x.1≤l.length/\x.2.2=ZAi (l.take x.1) k) (0,.slice none 0 0,[]) ?start ?frame0 ?objs0 ?round)
 case start=>exact⟨Nat.zero_le _,rfl⟩
 case frame0=>exact zFr
 case objs0=>rfl
 case round =>
  rintro⟨i,v,o⟩ ⟨h1,h2⟩;simp only at h1 h2;have hol:o.length≤256*i:=by rw[h2];exact ZD6 l k i hs h1
  dsimp only[ZH,z0,z1];((repeat' (first|refine zS ?_|refine ZA fun Kx hK=>?_|(refine hK _ _ ?_;clear hK)|(refine ZV0 ?_;clear hK)|(apply zV;(focus ((first|(apply ZVm (ZKs _ _ (Nat.le_trans (hs _ (List.getElem_mem _)) (by decide)) hk) Tryz.call136;exact aD)|exact ZBF|exact ZFM|exact ZBg|exact ZA3|exact ZS|exact Z2);all_goals infer_instance));exact zQ)|(apply ZB;exact oD;all_goals (intro h;try exact xD))|refine ZVr ?_|refine ZVs ?_|refine ZV1 ?_|refine ZVp ?_|refine ZVx ?_));all_goals (first|refine WC.id ?_|((repeat clear hK);(repeat clear Kx))))
  ·(refine zNx (i+1,v,o) ?_;(try dsimp only))
   refine⟨by omega,?_⟩;show o=_;rw[ZDm (by omega),<- h2];exact(if_pos (by omega)).symm
  ·have hb:(ZT k l[i]).length≤256:=Nat.le_trans (ZAo _ _) (Nat.pow_le_pow_right (by decide) (hs _ (List.getElem_mem (show i<l.length by omega))):2 ^ l[i].length≤2 ^ 8);(refine ZV4 (X:=Nat × Value × Cx) (fun x=>[(8,dI (x.1:Int)),(5,dX x.2.1),(31,dA),(32,dA),(33,dA),(34,dA),(35,dA),(36,dA),(37,dA),(38,dA),(39,dA),(40,dA),(41,dA),(42,dA)]) (fun x=>Zk x.2.1 22 ZI x.2.2::hp) (fun x=>(ZT k l[i]).length-x.1) (fun x=>x.1≤(ZT k l[i]).length/\x.2.2=((ZT k l[i]).take x.1).foldl ZCb o) (0,v,o) ?start ?frame0 ?objs0 ?round)
   case start=>exact⟨Nat.zero_le _,rfl⟩
   case frame0=>exact zFr
   case objs0=>rfl
   case round =>
    rintro⟨j,v',o'⟩ ⟨h3,h4⟩;simp only at h3 h4;have hol':o'.length≤3000000:=by
     have:=ZDW ((ZT k l[i]).take j) o;rw[List.length_take,Nat.min_eq_left h3,<- h4] at this;omega
    dsimp only[ZH,z0,z1];((repeat' (first|(apply zV;exact yF;exact zQ)|refine ZVj ?_|refine ZA fun Kx hK=>?_|(refine hK _ _ ?_;clear hK)|(refine ZV0 ?_;clear hK)|refine ZVk ?_ |  (refine WL.callC (hp1:=[_]) (caps:=[]) (ZP7 _ _ _ hol') Tryz.call137 ZWO (by exact aD) ?_;rintro d' hp2 ⟨v2,rfl,rfl⟩;dsimp only[ZC,z0,z1,List.cons_append,List.nil_append])|(apply zV;(focus ((first|exact ZBF|exact ZBg|exact ZA3|exact ZS);all_goals infer_instance));exact zQ)|(apply ZB;exact oD;all_goals (intro h;try exact xD))|refine ZVr ?_|refine ZV1 ?_|refine ZVp ?_|refine ZVx ?_));all_goals ((repeat clear hK);repeat clear Kx))
    ·(refine zNx (j+1,_,ZCb o' (ZT k l[i])[j]) ?_;(try dsimp only))
     refine⟨by omega,?_⟩;show ZCb o' _=_;rw[ZDs (by omega),<- h4]
    ·(refine zNx (i+1,v',o') ?_;(try dsimp only))
     refine⟨by omega,?_⟩;show o'=_;rw[ZDm (by omega),<- h2,h4,List.take_of_length_le (by omega)];exact(if_neg (by omega)).symm
  ·rw[List.take_of_length_le (by omega)] at h2;subst h2;exact⟨trivial,_,[_],rfl,rfl,_,rfl,rfl⟩
theorem ZM9 (l:Cx) (k:Nat) (hl:l.length≤4096) (hs:∀f∈l,f.length≤8) (hk:k≤100):Fn Tryz.prog 108 [dS Cpx l,dI (k:Int)] (dS Zh (ZAi l k)) :=
 ZLz (ZTY l k hl hs hk) (by rintro d hp2 ⟨v,rfl,rfl⟩;exact FinD.row (.head _))
theorem ZQS {l:Cx} (h:∀s∈l,ZAC s=0):∀s∈l,s.length≤8:=fun s hs=>(Zi.1 (h s hs)).2.1
theorem ZLU (l:Cx):Fn Tryz.prog 106 [dS Cpx l] (dT [dI (ZBf l).1,dI (ZBf l).2]):=by
 refine zF Tryz.func106 33 ?_;by_cases h0:ZBC l=0
 ·obtain⟨g1,_,_,g4⟩:=ZGp h0;have g5:=ZQS g4;have g6:∀k,(ZAi l k).length≤2000000:=fun k=>by
   have:=ZD6 l k l.length g5 (Nat.le_refl _);rw[List.take_length] at this;omega
  (repeat' (first|refine zS ?_|refine ZA fun Kx hK=>?_|(refine hK _ _ ?_;clear hK)|(apply zV;(focus ((first|(apply ZVm (ZGo _) Tryz.call48;exact aD)|exact ZEm|exact ZEL);all_goals infer_instance));exact zQ)|(apply ZG;exact oD;all_goals (intro h;try exact xD))|refine ZVr ?_|refine ZVp ?_))
  (refine ZV4 (X:=Nat × Int) (fun x=>[(6,dI ((x.1:Int)+1)),(5,dI x.2),(2,dA),(3,dA),(7,dA),(13,dA),(14,dA),(15,dA),(16,dA),(17,dA),(18,dA),(19,dA),(20,dA),(21,dA),(22,dA),(23,dA),(24,dA),(25,dA),(26,dA),(27,dA),(28,dA),(29,dA),(30,dA),(31,dA)]) (fun x=>[]) (fun x=>8-x.1) (fun x=>x.1≤8/\x.2=ZHa l x.1/\(List.range x.1).any (fun k=>decide (4096<(ZAi l (k+1)).length))=false) (0,0) ?start ?frame0 ?objs0 ?round)
  case start=>exact⟨Nat.zero_le _,rfl,rfl⟩
  case frame0=>exact zFr
  case objs0=>rfl
  case round =>
   rintro⟨k,m⟩ ⟨h1,h5,h2⟩;simp only at h1 h2 h5;have hc:(k:Int)+1≤8->Fn Tryz.prog 108 [dS Cpx l,dI ((k:Int)+1)] (dS Zh (ZAi l (k+1))):=fun h=>ZM9 l (k+1) g1 g5 (by omega);have h3:=ZId l g6 k;rw[<- h5] at h3;have h4:=g6 (k+1);dsimp only[ZH,z0,z1];((repeat' (first|refine zS ?_|refine ZA fun Kx hK=>?_|(refine hK _ _ ?_;clear hK)|(refine ZV0 ?_;clear hK)|(apply zV;(focus ((first|(apply ZVm (hc (by assumption)) Tryz.call108;exact aD)|exact ZNx|exact ZFM|exact ZHe|exact ZBg|exact ZLx|exact yRem|exact ZA3);all_goals infer_instance));exact zQ)|(apply ZB;exact oD;all_goals (intro h;try exact xD))|refine ZVr ?_|refine ZVs ?_|refine ZV1 ?_|refine ZVp ?_|refine ZVx ?_|refine ZVz ?_|refine ZWC ?_));all_goals ((repeat clear hK);repeat clear Kx))
   ·unfold ZBf;rw[if_neg (by omega),if_pos (ZEd (show k<8 by omega) (decide_eq_true (by omega)))];(refine⟨trivial,⟨_,rfl,?_⟩,_,rfl,?_⟩ <;> exact fD)
   ·rw[ZNu] at h;have h9:(k+1) % 2=1:=by omega
    (refine zNx (k+1,m+(ZAi l (k+1)).length) ?_;(try dsimp only))
    refine⟨by omega,?_,?_⟩
    ·show _=ZHa l (k+1);unfold ZHa;rw[if_pos h9,h5]
    ·rw[ZBH,h2,decide_eq_false (by omega)];rfl
   ·rw[ZNu] at h;have h9:¬ (k+1) % 2=1:=by omega
    (refine zNx (k+1,m-(ZAi l (k+1)).length) ?_;(try dsimp only))
    refine⟨by omega,?_,?_⟩
    ·show _=ZHa l (k+1);unfold ZHa;rw[if_neg h9,h5]
    ·rw[ZBH,h2,decide_eq_false (by omega)];rfl
   ·have h9:k=8:=by omega
    subst h9;unfold ZBf;rw[if_neg (by omega),h2,if_neg Bool.false_ne_true,<- h5];(refine⟨trivial,⟨_,rfl,?_⟩,_,rfl,?_⟩ <;> exact fD)
 ·have e:ZBf l=(0,ZBC l):=by unfold ZBf;rw[if_pos h0]
  ((repeat' (first|refine zS ?_|refine ZA fun Kx hK=>?_|(refine hK _ _ ?_;clear hK)|(apply zV;(focus ((first|(apply ZVm (ZGo _) Tryz.call48;exact aD)|exact ZEm|exact ZEL);all_goals infer_instance));exact zQ)|(apply ZG;exact oD;all_goals (intro h;try exact xD))|refine ZVs ?_|refine ZVz ?_));all_goals ((repeat clear hK);repeat clear Kx))
  all_goals (rw[e];(refine⟨trivial,⟨_,rfl,?_⟩,_,rfl,?_⟩ <;> exact fD))
end
section
theorem ZFo {f s:List Vx} (hf:Asc f) (hs:Asc s):f.Sublist s↔Z8 f s=true:=by
 constructor
 ·intro h;unfold Z8;rw[List.all_eq_true];intro x hx;simpa using h.subset hx
 ·intro h;have hsub:∀x∈f,x∈s:=fun x hx=>by
   have:=List.all_eq_true.1 h x hx;simpa using this
  have e:ZEk s f true=f:=asc_ext (ZFS hs) hf fun x=>by
   rw[ZFf];constructor
   ·intro ⟨_,h⟩;simpa using h
   ·intro hx;exact⟨hsub x hx,by simpa using hx⟩
  rw[<- e];exact ZEJ
end
section
open Go.RowKit

section
variable {P:Program}
def fin3 (t u v:Nat) (r s q:Dat):Z4:=fun e fr hp=>(match e with|.normal|.ret=>True|_=>False)/\(∃d,fr[t]?=some d/\FinD hp d r)/\(∃d,fr[u]?=some d/\FinD hp d s)/\∃d,fr[v]?=some d/\FinD hp d q
theorem ZCu {f:FuncId} {fn:Func} {c:Code} {args:List Dat} {r s q:Dat} {t u v:Tmp} (hf:P.funcs[f]?=some fn) (hb:fn.body=some c) (hr:fn.results=#[.tmp t,.tmp u,.tmp v])
  (h:WC P (fin3 t u v r s q) c (args++List.replicate (fn.ntmps-args.length) (dX undef)) []):Fn P f args (dT [r,s,q]) :=
 ZBr hf hb (fun e fr hp q=>by
  obtain⟨he,⟨d,hd,hfin⟩,⟨d',hd',hfin'⟩,d2,hd2,hfin2⟩:=q;refine⟨by cases e <;> simp_all,fun {P0 B w0 w a} hh hf'=>⟨_,ZFB hr _ _,[a.tmps.getD t undef,a.tmps.getD u undef,a.tmps.getD v undef],rfl,rfl,fun i e x he hx=>?_⟩⟩
  match i,he,hx with
  | 0,he,hx=>cases he;cases hx;exact hfin.out hh (hf'.rd t d hd)
  | 1,he,hx=>cases he;cases hx;exact hfin'.out hh (hf'.rd u d' hd')
  | 2,he,hx=>cases he;cases hx;exact hfin2.out hh (hf'.rd v d2 hd2)) h
end
end
section
open Go.RowKit

theorem ZGt:∀n≤8,∀k≤8,ZFY n k≤70:=by decide
theorem ZLo {s:List Vx} (h:s.length≤8) (k:Nat):(ZT k s).length≤70:=by
 by_cases hk:k≤8
 ·rw[ZCS];exact ZGt _ h _ hk
 ·rw[ZAh k s (by omega)];simp
theorem ZGF {l:Cx} (h:∀s∈l,s.length≤8) (k:Nat):(ZAi l k).length≤70*l.length:=by
 have h1:(ZAi l k).length≤(ZHb l k).length:=List.Nodup.length_le_of_subset (ZCZ l _).nodup fun x hx=>ZGL.2 hx;have h2:∀l:Cx,(∀s∈l,s.length≤8)->(ZHb l k).length≤70*l.length:=by
  intro l;induction l with
  | nil=>intro _;simp[ZHb]
  | cons s l ih =>
   intro h;have e:ZHb (s::l) k=ZT k s++ZHb l k:=by unfold ZHb;simp
   rw[e,List.length_append,List.length_cons];have:=ZLo (h s (by simp)) k;have:=ih fun x hx=>h x (by simp[hx]);omega
 have:=h2 l h;omega
end
section
open Go.RowKit
theorem ZPh (z:Value) (n:Nat):(madeCells #[z] n).toList=List.replicate n z:=by
 unfold madeCells;apply List.ext_getElem (by simp);intro i h1 h2;simp[Nat.mod_one]
end
section
theorem ZIS (s a b:List Vx):ZC3 s (a++b)=ZC3 (ZC3 s a) b:=by unfold ZC3;rw[List.foldl_append]
theorem ZHJ {a:Cx} {k:Nat} (h:k<a.length):ZES (a.take (k+1))=ZC3 (ZES (a.take k)) a[k]:=by
 unfold ZES;rw[Ze h,List.flatten_append,ZIS];simp
end
section
open Go.RowKit

theorem ZLd (w:World):(Instr.build 93 #[]).run Tryz.prog w = .ok (.agg #[.slice none 0 0,.nilFunc]) w:=by go_simp
section
variable {ops:Array Oper} {hp:List HObj} {fr:List Dat} {dst:Option Tmp} {ty:TypeId} {ps:String} {af:Array Edge} {g:Option (Nat × Bool)}
theorem ZCJ:SY Tryz.prog ops hp ⟨dst,.build 93 #[],ty,ps,af,g⟩ fr (dX (.agg #[.slice none 0 0,.nilFunc])):=ZWK fun {I w a} ho=>by
 refine⟨_,?_,rfl⟩;unfold execOp;simp only[List.map_toArray,List.map_nil,Sem.run_bind,ZLd,Result.andThen_ok,Sem.run_pure]
end
end
section
open Go.RowKit

theorem ZFc {vs:List Vx} {A:List Int} {v:Vx} {k:Nat} (hk:k<vs.length) (hA:k<A.length):Zc (vs.drop k) (A.drop k) v=if vs[k]=v then A[k] else Zc (vs.drop (k+1)) (A.drop (k+1)) v:=by
 rw[List.drop_eq_getElem_cons hk,List.drop_eq_getElem_cons hA];rfl
theorem ZKU (vs:List Vx) (A:List Int) (v:Vx) (hA:A.length=vs.length) (hl:vs.length≤1000000):Fn Tryz.prog 89 [dS Lab (vs,A),dS RV v] (dI (Zc vs A v)):=by
 obtain⟨o,ho⟩:∃o,Zc vs A v=o:=⟨_,rfl⟩;rw[ho];refine zE Tryz.func89 25 ?_;(repeat' (first|refine zS ?_|refine ZA fun Kx hK=>?_|(refine hK _ _ ?_;clear hK)|(apply zV;(focus ((first|(apply ZV3;exact oD;exact hD));all_goals infer_instance));exact zQ)|refine ZVp ?_))
 all_goals try exact xO
 (refine ZV4 (X:=Nat) (fun k=>[(5,dI (k:Int)),(4,dA),(6,dA),(7,dA),(8,dA),(9,dA),(10,dA),(11,dA),(12,dA),(13,dA),(14,dA),(15,dA),(16,dA),(17,dA),(18,dA),(19,dA),(20,dA),(21,dA),(22,dA),(23,dA),(24,dA)]) (fun k=>[]) (fun k=>vs.length-k) (fun k=>k≤vs.length/\Zc (vs.drop k) (A.drop k) v=o) 0 ?start ?frame0 ?objs0 ?round)
 case start=>exact⟨Nat.zero_le _,ho⟩
 case frame0=>exact zFr
 case objs0=>rfl
 case round =>
  rintro k ⟨hk,hE⟩;dsimp only[ZH,z0,z1];by_cases hkl:k<vs.length
  ·have hkI:(k:Int)<(vs.length:Int):=by omega
   have hkA:k<A.length:=by omega
   rw[ZFc hkl hkA] at hE;by_cases he:vs[k]=v
   ·rw[if_pos he] at hE;subst hE;((repeat' (first|refine zS ?_|refine WD.nil ?_|refine ZA fun Kx hK=>?_|(refine hK _ _ ?_;clear hK)|(apply ZWB;kernel_rfl;kernel_rfl)|((first|apply ZVi|apply ZVl);(focus ((first|(refine ZW ZAp (ZVh rfl) ZAA rfl rfl)|(apply ZVy;exact ZHd;exact ZVh rfl)|(exact ZV8 (R:=RI) (_gR:=inferInstance) (k:=k) elI (ZVh rfl) (ZVh rfl) hkA)|exact yG|(first|(apply SY.fld0 vxT <;> exact oD)|(apply SY.fld1 vxT <;> exact oD)|(apply ZGc vxT <;> exact oD))|fail);all_goals infer_instance));dsimp only[ZC,z0,z1])|(apply ZB;exact oD;all_goals (intro h;try exact xD))|refine ZVr ?_|refine ZVs ?_|refine ZVp ?_|refine ZVz ?_|refine ZWC ?_));all_goals ((repeat clear hK);repeat clear Kx))
    all_goals try exact xO
    (refine⟨trivial,_,rfl,?_⟩;exact fD)
   ·rw[if_neg he] at hE;((repeat' (first|refine zS ?_|refine WD.nil ?_|refine ZA fun Kx hK=>?_|(refine hK _ _ ?_;clear hK)|(apply ZWB;kernel_rfl;kernel_rfl)|((first|apply ZVi|apply ZVl);(focus ((first|(refine ZW ZAp (ZVh rfl) ZAA rfl rfl)|exact yG|(first|(apply SY.fld0 vxT <;> exact oD)|(apply SY.fld1 vxT <;> exact oD)|(apply ZGc vxT <;> exact oD))|fail);all_goals infer_instance));dsimp only[ZC,z0,z1])|(apply ZB;exact oD;all_goals (intro h;try exact xD))|refine ZVr ?_|refine ZVp ?_|refine ZVx ?_));all_goals ((repeat clear hK);repeat clear Kx))
    all_goals try exact xO
    (refine zNx (k+1) ?_;(try dsimp only))
    exact⟨hkl,hE⟩
  ·have hkI:¬ (k:Int)<(vs.length:Int):=by omega
   rw[List.drop_of_length_le (by omega)] at hE;have h0:o=0:=by rw[<- hE];unfold Zc;rfl
   subst h0;((repeat' (first|refine zS ?_|refine ZA fun Kx hK=>?_|(refine hK _ _ ?_;clear hK)|(refine ZV0 ?_;clear hK)|(apply zV;(focus ((first|(refine ZW ZAp (ZVh rfl) ZAA rfl rfl)|exact yG);all_goals infer_instance));exact zQ)|(apply ZB;exact oD;all_goals (intro h;try exact xD))|refine ZVs ?_|refine ZV1 ?_));all_goals ((repeat clear hK);repeat clear Kx))
   all_goals try exact xO
   (refine⟨trivial,_,rfl,?_⟩;exact fD)
theorem ZHQ (vs:List Vx) (A:List Int) (s:List Vx) (hA:A.length=vs.length) (hl:vs.length≤1000000):Fn Tryz.prog 90 [dS Lab (vs,A),dS ZI s] (dI (orL (Zc vs A) s)):=by
 refine zE Tryz.func90 22 ?_;(first|refine ZP (t:=1) rfl ZEG fun hl1=>?_|refine ZP (t:=1) rfl ZDu fun hl1=>?_|refine ZP (t:=1) rfl ZJS fun hl1=>?_);simp only[maxLen] at hl1
 (repeat' (first|refine zS ?_|refine ZA fun Kx hK=>?_|(refine hK _ _ ?_;clear hK)|(apply zV;(focus ((first|(apply ZV3;exact oD;exact hD));all_goals infer_instance));exact zQ)|refine ZVp ?_))
 all_goals try exact xO
 (refine ZV4 (X:=Nat) (fun k=>[(6,dI (k:Int)),(5,dI (orL (Zc vs A) (s.take k))),(7,dA),(8,dA),(9,dA),(10,dA),(11,dA),(12,dA),(13,dA),(14,dA),(15,dA),(16,dA),(17,dA),(18,dA),(19,dA),(20,dA)]) (fun k=>[]) (fun k=>s.length-k) (fun k=>k≤s.length) 0 ?start ?frame0 ?objs0 ?round)
 case start=>exact Nat.zero_le _
 case frame0=>exact zFr
 case objs0=>rfl
 case round =>
  rintro k hk;dsimp only[ZH,z0,z1];by_cases hkl:k<s.length
  ·have hkI:(k:Int)<(s.length:Int):=by omega
   have he:ior (orL (Zc vs A) (s.take k)) (Zc vs A s[k])=orL (Zc vs A) (s.take (k+1)):=by
    unfold orL;rw[List.take_succ_eq_append_getElem hkl,List.foldl_append];rfl
   have hof:=ZKU vs A s[k] hA hl;((repeat' (first|refine zS ?_|refine WD.nil ?_|refine ZA fun Kx hK=>?_|(refine hK _ _ ?_;clear hK)|(apply ZWB;kernel_rfl;kernel_rfl)|((first|apply ZVi|apply ZVl);(focus ((first|(apply ZVy;exact ZAz;exact ZVh rfl)|(apply ZVm (hof) Tryz.call89;exact aD)|exact yG|fail);all_goals infer_instance));dsimp only[ZC,z0,z1])|(apply ZB;exact oD;all_goals (intro h;try exact xD))|refine ZVr ?_|refine ZVp ?_|refine ZVx ?_));all_goals ((repeat clear hK);repeat clear Kx))
   all_goals try exact xO
   rw[he];(refine zNx (k+1) ?_;(try dsimp only))
   omega
  ·have hkI:¬ (k:Int)<(s.length:Int):=by omega
   obtain rfl:k=s.length:=by omega
   rw[List.take_length];((repeat' (first|refine zS ?_|refine ZA fun Kx hK=>?_|(refine hK _ _ ?_;clear hK)|(refine ZV0 ?_;clear hK)|(apply zV;exact yG;exact zQ)|(apply ZB;exact oD;all_goals (intro h;try exact xD))|refine ZVs ?_|refine ZV1 ?_));all_goals ((repeat clear hK);repeat clear Kx))
   all_goals try exact xO
   (refine⟨trivial,_,rfl,?_⟩;exact fD)
theorem ZI1 (vs:List Vx) (A:List Int) (s:List Vx) (k:Int) (hA:A.length=vs.length) (hl:vs.length≤1000000) (hk:0≤k/\k≤1000):Fn Tryz.prog 116 [dS Lab (vs,A),dS ZI s,dI k] (dB (decide (ZQu (orL (Zc vs A) s) (k+1)=0))):=by
 have hk1:0≤k+1:=by omega
 have ht:=ZHQ vs A s hA hl;refine zE Tryz.func116 14 ?_;((repeat' (first|refine zS ?_|refine ZA fun Kx hK=>?_|(refine hK _ _ ?_;clear hK)|(apply zV;(focus ((first|(apply ZVy;exact ZAz;exact ZVh rfl)|(apply ZVm (ht) Tryz.call90;exact aD)|(exact SY.shr (ZVh rfl) (ZVh rfl) hk1)|exact yG);all_goals infer_instance));exact zQ)|refine ZVs ?_));all_goals ((repeat clear hK);repeat clear Kx))
 all_goals try exact xO
 (refine⟨trivial,_,rfl,?_⟩;exact fD)
theorem ZGl (vs:List Vx) (A:List Int) (s:List Vx) (k:Nat) (hA:A.length=vs.length) (hl:vs.length≤1000000) (hk:k≤8):Fn Tryz.prog 109 [dS Lab (vs,A),dS ZI s,dI (k:Int)] (dB (ZF6 (Zc vs A) (((2 ^ k:Nat):Int)-1) s)):=by
 have hp:=pow9 ⟨k,by omega⟩;simp only at hp;generalize hN:2 ^ k=N at hp;have ht:=ZHQ vs A s hA hl;refine zE Tryz.func109 18 ?_;((repeat' (first|refine zS ?_|refine ZA fun Kx hK=>?_|(refine hK _ _ ?_;clear hK)|(apply zV;(focus ((first|(apply ZVy;exact ZAz;exact ZVh rfl)|(refine hN ▸ ZLI hk ZV5 (ZVh rfl))|(apply ZVm (ht) Tryz.call90;exact aD)|exact yG);all_goals infer_instance));exact zQ)|refine ZVs ?_));all_goals ((repeat clear hK);repeat clear Kx))
 all_goals try exact xO
 (refine⟨trivial,_,rfl,?_⟩;exact fD)
end
section
open Go.RowKit

theorem ZI6 (vs:List Vx) (A:List Int):Fn Tryz.prog 14 [dS Lab (vs,A)] (dI (ZAU vs A)):=by
 obtain⟨o,ho⟩:∃o,ZAU vs A=o:=⟨_,rfl⟩;rw[ho];unfold ZAU at ho;refine zE Tryz.func14 60 ?_;by_cases h1:4096<vs.length
 ·rw[if_pos h1] at ho;subst ho;((repeat' (first|refine zS ?_|refine ZA fun Kx hK=>?_|(refine hK _ _ ?_;clear hK)|((first|apply ZF|apply WD.op);(focus (first|exact wN|(apply ZVt;exact wY;((first|(refine ZW ZAp (ZVh rfl) ZAA rfl rfl)|exact yG|fail);all_goals infer_instance))));dsimp only[ZC,z0,z1])|(apply ZB;exact oD;all_goals (intro h;try exact xD))|refine ZVs ?_|refine ZVz ?_));all_goals ((repeat clear hK);repeat clear Kx))
  all_goals try exact xO
  (refine⟨trivial,_,rfl,?_⟩;exact fD)
 rw[if_neg h1] at ho;by_cases h2:A.length≠vs.length
 ·rw[if_pos h2] at ho;subst ho;((repeat' (first|refine zS ?_|refine ZA fun Kx hK=>?_|(refine hK _ _ ?_;clear hK)|((first|apply ZF|apply WD.op);(focus (first|exact wN|(apply ZVt;exact wY;((first|(refine ZW ZAp (ZVh rfl) ZAA rfl rfl)|(apply ZVy;exact ZHd;exact ZVh rfl)|exact yG|fail);all_goals infer_instance))));dsimp only[ZC,z0,z1])|(apply ZB;exact oD;all_goals (intro h;try exact xD))|(apply ZG;exact oD;all_goals (intro h;try exact xD))|refine ZVr ?_|refine ZVs ?_|refine ZVz ?_));all_goals ((repeat clear hK);repeat clear Kx))
  all_goals try exact xO
  (refine⟨trivial,_,rfl,?_⟩;exact fD)
 rw[if_neg h2] at ho;have hA:A.length=vs.length:=Classical.byContradiction h2;(repeat' (first|refine zS ?_|refine ZA fun Kx hK=>?_|(refine hK _ _ ?_;clear hK)|((first|apply ZF|apply WD.op);(focus (first|exact wN|(apply ZVt;exact wY;((first|(refine ZW ZAp (ZVh rfl) ZAA rfl rfl)|(apply ZVy;exact ZHd;exact ZVh rfl)|((first|apply ZVo|apply ZVn|apply ZVq|apply ZV6|apply ZWA|apply ZVv|apply ZVw) <;> exact oD)|(apply ZVu;exact oD;exact nD;exact uD)|(apply ZV3;exact oD;exact hD)|fail);all_goals infer_instance))));dsimp only[ZC,z0,z1])|(apply ZB;exact oD;all_goals (intro h;try exact xD))|(apply ZG;exact oD;all_goals (intro h;try exact xD))|refine ZVr ?_|refine ZVp ?_))
 all_goals try exact xO
 (refine ZV4 (X:=Nat) (fun k=>[(3,dI (k:Int)),(2,dA),(15,dA),(16,dA),(17,dA),(18,dA),(19,dA),(20,dA),(21,dA),(22,dA),(23,dA),(24,dA),(25,dA),(26,dA),(27,dA),(28,dA),(29,dA),(30,dA),(31,dA),(32,dA),(33,dA),(34,dA),(35,dA),(36,dA),(37,dA),(38,dA),(39,dA),(40,dA),(41,dA),(42,dA),(43,dA),(44,dA),(45,dA),(46,dA),(47,dA),(48,dA),(49,dA),(50,dA),(51,dA),(52,dA),(53,dA),(54,dA),(55,dA),(56,dA),(57,dA),(58,dA),(59,dA)]) (fun k=>[]) (fun k=>vs.length-k) (fun k=>k≤vs.length/\ZF5 (ZER vs k) (vs.drop k) (A.drop k)=o) 0 ?start ?frame0 ?objs0 ?round)
 case start=>exact⟨Nat.zero_le _,ho⟩
 case frame0=>exact zFr
 case objs0=>rfl
 case round =>
  rintro k ⟨g1,g2⟩;dsimp only[ZH,z0,z1];by_cases hk:k<vs.length
  ·have hkI:(k:Int)<(vs.length:Int):=by omega
   have hkA:k<A.length:=by omega
   rw[ZFV hk hkA] at g2;have c1:=ZKg vs[k];by_cases hr:ZDL vs[k]=false
   ·rw[if_pos hr] at g2;subst g2;rw[hr] at c1;((repeat' (first|refine zS ?_|refine ZA fun Kx hK=>?_|(refine hK _ _ ?_;clear hK)|((first|apply ZF|apply WD.op);(focus (first|exact wN|(apply ZVt;exact wY;((first|(apply ZVm (c1) Tryz.call41;exact aD)|(refine ZW ZAp (ZVh rfl) ZAA rfl rfl)|exact yG|fail);all_goals infer_instance))));dsimp only[ZC,z0,z1])|(apply ZB;exact oD;all_goals (intro h;try exact xD))|(apply ZO;exact oD;all_goals (intro h;try exact xD))|refine ZVr ?_|refine ZVs ?_|refine ZVp ?_|refine ZVz ?_|refine ZWC ?_));all_goals ((repeat clear hK);repeat clear Kx))
    all_goals try exact xO
    (refine⟨trivial,_,rfl,?_⟩;exact fD)
   ·rw[if_neg hr] at g2;rw[show ZDL vs[k]=true by simpa using hr] at c1;have hk1:k-1<vs.length:=by omega
    have c2:=ZGw vs[k-1] vs[k];have hpv:k≠0->ZER vs k=some vs[k-1]:=fun h=>by unfold ZER;rw[if_neg h,List.getElem?_eq_getElem hk1]
    by_cases hb:k≠0/\0≤ZAW vs[k-1] vs[k]
    ·have hkz:(k:Int)>0:=by omega
     have hb2:=hb.2;rw[if_pos (by rw[hpv hb.1];exact hb.2)] at g2;subst g2;((repeat' (first|refine zS ?_|refine WD.nil ?_|refine ZA fun Kx hK=>?_|(refine hK _ _ ?_;clear hK)|(apply ZWB;kernel_rfl;kernel_rfl)|((first|apply ZF|apply WD.op);(focus (first|exact wN|(apply ZVt;exact wY;((first|(apply ZVm (c1) Tryz.call41;exact aD)|(apply ZVm (c2) Tryz.call42;exact aD)|(refine ZW ZAp (ZVh rfl) ZAA rfl rfl)|(refine Zy (R:=RV) (_gR:=inferInstance) (k:=k) elV (ZVh rfl) (ZVh rfl) hk)|(refine Zy (R:=RV) (_gR:=inferInstance) (k:=k-1) elV (ZVh rfl) (ZWD rfl (ZCO (by omega))) hk1)|exact yG|fail);all_goals infer_instance))));dsimp only[ZC,z0,z1])|((first|refine ZM rfl rfl rfl (fun h=>?_) (fun h=>?_)|refine ZL rfl rfl rfl (fun h=>?_) (fun h=>?_)|refine ZK rfl rfl rfl (fun h=>?_) (fun h=>?_)|refine Za rfl rfl rfl (fun h=>?_) (fun h=>?_)|refine ZX rfl rfl rfl (fun h=>?_) (fun h=>?_)|refine ZV rfl rfl rfl (fun h=>?_) (fun h=>?_)) <;> (first|(exfalso;first|omega|contradiction)|(dsimp only[z0,z1])))|(apply ZB;exact oD;all_goals (intro h;try exact xD))|(apply ZO;exact oD;all_goals (intro h;try exact xD))|refine ZVr ?_|refine ZVs ?_|refine ZVp ?_|refine ZVz ?_|refine ZWC ?_));all_goals ((repeat clear hK);repeat clear Kx))
     all_goals try exact xO
     (refine⟨trivial,_,rfl,?_⟩;exact fD)
    ·rw[if_neg (ZLe hk1 hb)] at g2;have hc:((k:Int)>0/\¬ 0≤ZAW vs[k-1] vs[k])\/¬ (k:Int)>0:=by
      by_cases hk0:k=0
      ·exact .inr (by omega)
      ·exact .inl ⟨by omega,fun h=>hb ⟨hk0,h⟩⟩
     by_cases ha:A[k]<1\/256≤A[k]
     ·rw[if_pos ha] at g2;subst g2;rcases hc with ⟨hkz,hb3⟩|hkz <;> rcases ha with ha1|ha2;all_goals
       ((repeat' (first|refine zS ?_|refine WD.nil ?_|refine ZA fun Kx hK=>?_|(refine hK _ _ ?_;clear hK)|(apply ZWB;kernel_rfl;kernel_rfl)|((first|apply ZF|apply WD.op);(focus (first|exact wN|(apply ZVt;exact wY;((first|(apply ZVm (c1) Tryz.call41;exact aD)|(apply ZVm (c2) Tryz.call42;exact aD)|(refine ZW ZAp (ZVh rfl) ZAA rfl rfl)|(apply ZVy;exact ZHd;exact ZVh rfl)|(refine Zy (R:=RV) (_gR:=inferInstance) (k:=k) elV (ZVh rfl) (ZVh rfl) hk)|(refine Zy (R:=RV) (_gR:=inferInstance) (k:=k-1) elV (ZVh rfl) (ZWD rfl (ZCO (by omega))) hk1)|(refine ZV8 (R:=RI) (_gR:=inferInstance) elI (ZVh rfl) (ZVh rfl) hkA)|exact yG|fail);all_goals infer_instance))));dsimp only[ZC,z0,z1])|((first|refine ZM rfl rfl rfl (fun h=>?_) (fun h=>?_)|refine ZL rfl rfl rfl (fun h=>?_) (fun h=>?_)|refine ZK rfl rfl rfl (fun h=>?_) (fun h=>?_)|refine Za rfl rfl rfl (fun h=>?_) (fun h=>?_)|refine ZX rfl rfl rfl (fun h=>?_) (fun h=>?_)|refine ZV rfl rfl rfl (fun h=>?_) (fun h=>?_)) <;> (first|(exfalso;first|omega|contradiction)|(dsimp only[z0,z1])))|(apply Zf;exact oD;(with_reducible rfl))|(apply ZQ;exact oD;(with_reducible rfl))|(apply ZB;exact oD;all_goals (intro h;try exact xD))|(apply ZO;exact oD;all_goals (intro h;try exact xD))|refine ZVr ?_|refine ZVs ?_|refine ZVp ?_|refine ZVz ?_|refine ZWC ?_));all_goals ((repeat clear hK);repeat clear Kx))
       all_goals try exact xO
       (refine⟨trivial,_,rfl,?_⟩;exact fD)
     ·rw[if_neg ha] at g2;rcases hc with ⟨hkz,hb3⟩|hkz;all_goals
       ((repeat' (first|refine zS ?_|refine WD.nil ?_|refine ZA fun Kx hK=>?_|(refine hK _ _ ?_;clear hK)|(apply ZWB;kernel_rfl;kernel_rfl)|((first|apply ZF|apply WD.op);(focus (first|exact wN|(apply ZVt;exact wY;((first|(apply ZVm (c1) Tryz.call41;exact aD)|(apply ZVm (c2) Tryz.call42;exact aD)|(refine ZW ZAp (ZVh rfl) ZAA rfl rfl)|(apply ZVy;exact ZHd;exact ZVh rfl)|(refine Zy (R:=RV) (_gR:=inferInstance) (k:=k) elV (ZVh rfl) (ZVh rfl) hk)|(refine Zy (R:=RV) (_gR:=inferInstance) (k:=k-1) elV (ZVh rfl) (ZWD rfl (ZCO (by omega))) hk1)|(refine ZV8 (R:=RI) (_gR:=inferInstance) elI (ZVh rfl) (ZVh rfl) hkA)|exact yG|fail);all_goals infer_instance))));dsimp only[ZC,z0,z1])|((first|refine ZM rfl rfl rfl (fun h=>?_) (fun h=>?_)|refine ZL rfl rfl rfl (fun h=>?_) (fun h=>?_)|refine ZK rfl rfl rfl (fun h=>?_) (fun h=>?_)|refine Za rfl rfl rfl (fun h=>?_) (fun h=>?_)|refine ZX rfl rfl rfl (fun h=>?_) (fun h=>?_)|refine ZV rfl rfl rfl (fun h=>?_) (fun h=>?_)) <;> (first|(exfalso;first|omega|contradiction)|(dsimp only[z0,z1])))|(apply ZQ;exact oD;(with_reducible rfl))|(apply ZB;exact oD;all_goals (intro h;try exact xD))|(apply ZO;exact oD;all_goals (intro h;try exact xD))|refine ZVr ?_|refine ZVp ?_|refine ZVx ?_));all_goals ((repeat clear hK);repeat clear Kx))
       all_goals try exact xO
       (refine zNx (k+1) ?_;(try dsimp only))
       exact⟨by omega,g2⟩
  ·have hkI:¬ (k:Int)<(vs.length:Int):=by omega
   rw[List.drop_of_length_le (by omega)] at g2;have h0:o=0:=by
    rw[<- g2];cases A.drop k <;> rfl
   subst h0;((repeat' (first|refine zS ?_|refine ZA fun Kx hK=>?_|(refine hK _ _ ?_;clear hK)|(refine ZV0 ?_;clear hK)|((first|apply ZF|apply WD.op);(focus (first|exact wN|(apply ZVt;exact wY;((first|(refine ZW ZAp (ZVh rfl) ZAA rfl rfl)|exact yG|fail);all_goals infer_instance))));dsimp only[ZC,z0,z1])|(apply ZB;exact oD;all_goals (intro h;try exact xD))|refine ZVs ?_|refine ZV1 ?_));all_goals ((repeat clear hK);repeat clear Kx))
   all_goals try exact xO
   (refine⟨trivial,_,rfl,?_⟩;exact fD)
end
section
open Go.RowKit

theorem ZDz {l:Cx} (h:∀s∈l,s.length≤8) (k:Nat):(ZES (l.take k)).length≤8*k:=by
 have h1:=ZIg (l:=l.take k) fun s hs=>h s (List.mem_of_mem_take hs);have h2:=(ZDT (l.take k).flatten []).2;have h3:(l.take k).length≤k:=List.length_take_le _ _;unfold ZES;simp only[List.length_nil] at h2;omega
theorem ZFm (l:Cx) (h8:∀s∈l,s.length≤8) (hl:l.length≤100):Fn Tryz.prog 88 [dS Cpx l] (dS ZI (ZES l)):=by
 refine zE Tryz.func88 20 ?_;(repeat' (first|refine zS ?_|refine ZA fun Kx hK=>?_|(refine hK _ _ ?_;clear hK)|(apply zV;(focus ((first|(apply ZV3;exact oD;exact hD));all_goals infer_instance));exact zQ)|refine ZVp ?_))
 (refine ZV4 (X:=Nat) (fun k=>[(4,dI (k:Int)),(3,dS ZI (ZES (l.take k))),(5,dA),(6,dA),(7,dA),(8,dA),(9,dA),(10,dA),(11,dA),(12,dA),(13,dA),(14,dA),(15,dA),(16,dA),(17,dA),(18,dA)]) (fun k=>[]) (fun k=>l.length-k) (fun k=>k≤l.length) 0 ?start ?frame0 ?objs0 ?round)
 case start=>exact Nat.zero_le _
 case frame0=>exact zFr
 case objs0=>rfl
 case round =>
  rintro k h1;have hp:=ZDz h8 k;dsimp only[ZH,z0,z1];by_cases hk:k<l.length
  ·have c1:=ZOu (ZES (l.take k)) l[k] (by omega) (by have:=h8 _ (List.getElem_mem hk);omega);rw[<- ZHJ hk] at c1;((repeat' (first|refine zS ?_|refine ZA fun Kx hK=>?_|(refine hK _ _ ?_;clear hK)|(apply zV;(focus ((first|(apply ZVm (c1) Tryz.call126;exact aD)|exact yG|(apply ZDM ZNz;exact ZVh rfl));all_goals infer_instance));exact zQ)|(apply ZB;exact oD;all_goals (intro h;try exact xD))|refine ZVr ?_|refine ZVp ?_|refine ZVx ?_));all_goals ((repeat clear hK);repeat clear Kx))
   (refine zNx (k+1) ?_;(try dsimp only))
   omega
  ·((repeat' (first|refine zS ?_|refine ZA fun Kx hK=>?_|(refine hK _ _ ?_;clear hK)|(refine ZV0 ?_;clear hK)|(apply zV;(focus ((first|exact yG|(apply ZDM ZNz;exact ZVh rfl));all_goals infer_instance));exact zQ)|(apply ZB;exact oD;all_goals (intro h;try exact xD))|refine ZVs ?_|refine ZV1 ?_));all_goals ((repeat clear hK);repeat clear Kx))
   rw[List.take_of_length_le (by omega)];(refine⟨trivial,_,rfl,?_⟩;exact fD)
end
section
open Go.RowKit

theorem ZLS {l:Cx} {f:Vx->Int}:ZGJ l f=(ZES l).all fun v=>!decide (f v=0):=by
 unfold ZGJ;rw[Bool.eq_iff_iff,List.all_eq_true,List.all_eq_true];constructor
 ·intro h v hv;obtain⟨s,hs,hvs⟩:=ZE9.1 hv;have:=h s hs;simp only[Bool.not_eq_true',List.any_eq_false,decide_eq_true_eq] at this;simpa using this v hvs
 ·intro h s hs;simp only[Bool.not_eq_true',List.any_eq_false,decide_eq_true_eq];intro v hv;simpa using h v (ZE9.2 ⟨s,hs,hv⟩)
theorem ZFb (l:Cx) (vs:List Vx) (A:List Int) (hA:A.length=vs.length) (hl:vs.length≤1000000) (h8:∀s∈l,s.length≤8) (hll:l.length≤100):Fn Tryz.prog 49 [dS Cpx l,dS Lab (vs,A)] (dB (ZGJ l (Zc vs A))):=by
 have c1:=ZFm l h8 hll;rw[ZLS];have hpl:=ZDz h8 l.length;rw[List.take_length] at hpl;generalize ZES l=p at c1 hpl;obtain⟨o,ho⟩:∃o,(p.all fun v=>!decide (Zc vs A v=0))=o:=⟨_,rfl⟩;rw[ho];refine zE Tryz.func49 22 ?_;(repeat' (first|refine zS ?_|refine ZA fun Kx hK=>?_|(refine hK _ _ ?_;clear hK)|(apply zV;(focus ((first|(apply ZVm (c1) Tryz.call88;exact aD)|(apply ZV3;exact oD;exact hD));all_goals infer_instance));exact zQ)|refine ZVp ?_))
 all_goals try exact xO
 (refine ZV4 (X:=Nat) (fun k=>[(6,dI (k:Int)),(4,dA),(9,dA),(10,dA),(11,dA),(12,dA),(13,dA),(14,dA),(15,dA),(16,dA),(17,dA),(18,dA),(19,dA),(20,dA),(21,dA)]) (fun k=>[]) (fun k=>p.length-k) (fun k=>k≤p.length/\((p.drop k).all fun v=>!decide (Zc vs A v=0))=o) 0 ?start ?frame0 ?objs0 ?round)
 case start=>exact⟨Nat.zero_le _,ho⟩
 case frame0=>exact zFr
 case objs0=>rfl
 case round =>
  rintro k ⟨hk,hE⟩;dsimp only[ZH,z0,z1];by_cases hkl:k<p.length
  ·have hkI:(k:Int)<(p.length:Int):=by omega
   have c2:=ZKU vs A p[k] hA hl;rw[List.drop_eq_getElem_cons hkl,List.all_cons] at hE;by_cases hz:Zc vs A p[k]=0
   ·rw[hz] at c2;rw[decide_eq_true hz] at hE;have h0:o=false:=by rw[<- hE];rfl
    subst h0;((repeat' (first|refine zS ?_|refine WD.nil ?_|refine ZA fun Kx hK=>?_|(refine hK _ _ ?_;clear hK)|(apply ZWB;kernel_rfl;kernel_rfl)|((first|apply ZVi|apply ZVl);(focus ((first|(apply ZVy;exact ZAz;exact ZVh rfl)|(apply ZVm (c2) Tryz.call89;exact aD)|exact yG|fail);all_goals infer_instance));dsimp only[ZC,z0,z1])|(apply ZB;exact oD;all_goals (intro h;try exact xD))|refine ZVr ?_|refine ZVs ?_|refine ZVp ?_|refine ZVz ?_|refine ZWC ?_));all_goals ((repeat clear hK);repeat clear Kx))
    all_goals try exact xO
    (refine⟨trivial,_,rfl,?_⟩;exact fD)
   ·rw[decide_eq_false hz] at hE;((repeat' (first|refine zS ?_|refine WD.nil ?_|refine ZA fun Kx hK=>?_|(refine hK _ _ ?_;clear hK)|(apply ZWB;kernel_rfl;kernel_rfl)|((first|apply ZVi|apply ZVl);(focus ((first|(apply ZVy;exact ZAz;exact ZVh rfl)|(apply ZVm (c2) Tryz.call89;exact aD)|exact yG|fail);all_goals infer_instance));dsimp only[ZC,z0,z1])|(apply ZB;exact oD;all_goals (intro h;try exact xD))|refine ZVr ?_|refine ZVp ?_|refine ZVx ?_));all_goals ((repeat clear hK);repeat clear Kx))
    all_goals try exact xO
    (refine zNx (k+1) ?_;(try dsimp only))
    exact⟨hkl,hE⟩
  ·have hkI:¬ (k:Int)<(p.length:Int):=by omega
   rw[List.drop_of_length_le (by omega)] at hE;have h0:o=true:=hE.symm;subst h0;((repeat' (first|refine zS ?_|refine ZA fun Kx hK=>?_|(refine hK _ _ ?_;clear hK)|(refine ZV0 ?_;clear hK)|(apply zV;exact yG;exact zQ)|(apply ZB;exact oD;all_goals (intro h;try exact xD))|refine ZVs ?_|refine ZV1 ?_));all_goals ((repeat clear hK);repeat clear Kx))
   all_goals try exact xO
   (refine⟨trivial,_,rfl,?_⟩;exact fD)
theorem ZEw {l:Cx} (h:(ZBf l).2=0):∀s∈l,s.length≤8:=by
 by_cases h0:ZBC l=0
 ·exact fun s hs=>(ZAX.1 h0).short s hs
 ·unfold ZBf at h;rw[if_pos h0] at h;exact absurd h h0
theorem ZG8 (l:Cx) (vs:List Vx) (A:List Int) (hll:l.length≤100):Fn Tryz.prog 63 [dS Cpx l,dS Lab (vs,A)] (dI (ZCD l vs A)):=by
 have c1:=ZLU l;have c2:=ZI6 vs A;obtain⟨o,ho⟩:∃o,ZCD l vs A=o:=⟨_,rfl⟩;rw[ho];unfold ZCD at ho;refine zE Tryz.func63 25 ?_;by_cases h1:(ZBf l).2≠0
 ·rw[if_pos h1] at ho;subst ho;((repeat' (first|refine zS ?_|refine ZA fun Kx hK=>?_|(refine hK _ _ ?_;clear hK)|(apply zV;(focus ((first|(apply ZVm (c1) Tryz.call106;exact aD)|exact yG);all_goals infer_instance));exact zQ)|(apply ZG;exact oD;all_goals (intro h;try exact xD))|refine ZVs ?_|refine ZVz ?_));all_goals ((repeat clear hK);repeat clear Kx))
  all_goals try exact xO
  (refine⟨trivial,_,rfl,?_⟩;exact fD)
 rw[if_neg h1] at ho;have h1':(ZBf l).2=0:=Classical.byContradiction h1;rw[h1'] at c1;by_cases h2:ZAU vs A≠0
 ·rw[if_pos h2] at ho;subst ho;((repeat' (first|refine zS ?_|refine ZA fun Kx hK=>?_|(refine hK _ _ ?_;clear hK)|(apply zV;(focus ((first|(apply ZVm (c1) Tryz.call106;exact aD)|(apply ZVm (c2) Tryz.call14;exact aD)|(apply ZVy;exact ZAz;exact ZVh rfl)|exact yG);all_goals infer_instance));exact zQ)|(apply ZG;exact oD;all_goals (intro h;try exact xD))|refine ZVr ?_|refine ZVs ?_|refine ZVz ?_));all_goals ((repeat clear hK);repeat clear Kx))
  all_goals try exact xO
  (refine⟨trivial,_,rfl,?_⟩;exact fD)
 rw[if_neg h2] at ho;have h2':ZAU vs A=0:=Classical.byContradiction h2;rw[h2'] at c2;obtain⟨g1,g2,g3,g4,g5⟩:=ZAm h2';have c3:=ZFb l vs A g2 (by omega) (ZEw h1') hll;by_cases h3:ZGJ l (Zc vs A)=false
 ·rw[if_pos h3] at ho;subst ho;rw[h3] at c3;((repeat' (first|refine zS ?_|refine ZA fun Kx hK=>?_|(refine hK _ _ ?_;clear hK)|(apply zV;(focus ((first|(apply ZVm (c1) Tryz.call106;exact aD)|(apply ZVm (c2) Tryz.call14;exact aD)|(apply ZVm (c3) Tryz.call49;exact aD)|(apply ZVy;exact ZAz;exact ZVh rfl)|exact yG);all_goals infer_instance));exact zQ)|(apply ZG;exact oD;all_goals (intro h;try exact xD))|(apply ZO;exact oD;all_goals (intro h;try exact xD))|refine ZVr ?_|refine ZVs ?_|refine ZVz ?_));all_goals ((repeat clear hK);repeat clear Kx))
  all_goals try exact xO
  (refine⟨trivial,_,rfl,?_⟩;exact fD)
 ·rw[if_neg h3] at ho;subst ho;rw[show ZGJ l (Zc vs A)=true by simpa using h3] at c3;((repeat' (first|refine zS ?_|refine ZA fun Kx hK=>?_|(refine hK _ _ ?_;clear hK)|(apply zV;(focus ((first|(apply ZVm (c1) Tryz.call106;exact aD)|(apply ZVm (c2) Tryz.call14;exact aD)|(apply ZVm (c3) Tryz.call49;exact aD)|(apply ZVy;exact ZAz;exact ZVh rfl)|exact yG);all_goals infer_instance));exact zQ)|(apply ZG;exact oD;all_goals (intro h;try exact xD))|(apply ZO;exact oD;all_goals (intro h;try exact xD))|refine ZVr ?_|refine ZVs ?_));all_goals ((repeat clear hK);repeat clear Kx))
  all_goals try exact xO
  (refine⟨trivial,_,rfl,?_⟩;exact fD)
end
section
open Go.RowKit

theorem sub_zero:∀s b:Fin 32,b.val &&& s.val=b.val->b.val≤s.val/\s.val-b.val<32/\(0<b.val->s.val-b.val<s.val\/s.val=0):=by decide +kernel
end
section
open Go.RowKit
abbrev CpxL:Rel (List (List Vx)):=ZSj False
variable {S:Prop}

end
end Go.Proofs.YtofkoleingbbpaaGreatDoor
