/- Part 15: walks by contracts, and plain laws. -/
import Derived.Test.YtofkoleingbbpaaGreatDoorXa14
set_option linter.unusedVariables false
set_option linter.unusedSimpArgs false
set_option linter.unusedSectionVars false
set_option maxRecDepth 100000
set_option maxHeartbeats 64000000
namespace Go.Proofs.YtofkoleingbbpaaGreatDoor
section
open Go.RowKit

def ZBu:List Vx->List Vx->Bool
 | [],_=>true
 | v::a,b=>if(b.dropWhile fun x=>decide (x≠v))=[] then false else ZBu a (b.dropWhile fun x=>decide (x≠v))
theorem ZNL {v x:Vx} {a c:List Vx} (h:x≠v):ZBu (v::a) (x::c)=ZBu (v::a) c:=by
 unfold ZBu;rw[List.dropWhile_cons_of_pos (by simpa using h)]
theorem ZPO {v:Vx} {a c:List Vx}:ZBu (v::a) (v::c)=ZBu a (v::c):=by
 conv=>lhs;unfold ZBu
 rw[List.dropWhile_cons_of_neg (by simp)];simp
theorem ZPN {v:Vx} {a:List Vx}:ZBu (v::a) []=false:=by unfold ZBu;simp
theorem ZMJ (a b:List Vx):Fn Tryz.prog 124 [dS ZM a,dS ZM b] (dB (ZBu a b)):=by
 (refine ZE Tryz.func124 rfl rfl ?_;simp only[Tryz.ntmps124,List.length_cons,List.length_nil,Nat.reduceAdd,Nat.reduceSub,List.replicate_succ,List.replicate_zero,List.cons_append,List.nil_append])
 (repeat' (first|((first|apply WL.opN|apply WD.opN);exact yF;dsimp only[ZC,z0,z1])|refine WL.nil ?_|refine ZA fun Kx hK=>?_|(refine hK _ _ ?_;clear hK)|refine WC.region ?_|((first|apply ZF|apply WD.op);(focus (first|exact wN|(apply SYG.yes;(exact wY);((first|exact ZA3|fail);all_goals infer_instance))));dsimp only[ZC,z0,z1])|refine WC.block ?_))
 (first|refine ZR (t:=0) rfl ZEH fun hl0=>?_|refine ZR (t:=0) rfl ZDu fun hl0=>?_|refine ZR (t:=0) rfl ZJS fun hl0=>?_);simp only[maxLen] at hl0
 (refine WC.loopU (X:=Nat × List Vx) (fun x=>[(9,dI (x.1:Int)),(1,dS ZM x.2),(4,dA),(6,dA),(10,dA),(11,dA),(12,dA),(13,dA),(14,dA),(15,dA),(16,dA),(17,dA),(18,dA),(19,dA),(20,dA),(21,dA),(22,dA),(23,dA),(24,dA),(25,dA),(26,dA),(27,dA),(28,dA)]) (fun x=>[]) (fun x=>a.length-x.1) (fun x=>x.1≤a.length/\ZBu a b=ZBu (a.drop x.1) x.2) (0,b) ?start ?frame0 ?objs0 ?round)
 case start=>exact⟨Nat.zero_le _,rfl⟩
 case frame0=>exact zFr
 case objs0=>rfl
 case round =>
  rintro⟨k,c⟩ ⟨h1,h2⟩;simp only at h1 h2;dsimp only[ZL,z0,z1];((repeat' (first|((first|apply WL.opN|apply WD.opN);exact yF;dsimp only[ZC,z0,z1])|refine WL.nil ?_|refine ZA fun Kx hK=>?_|(refine hK _ _ ?_;clear hK)|(refine Kont.skip ?_;clear hK)|refine WC.region ?_|(apply WL.alloc;(first|exact tzV|exact tzC);(first|exact Zw rfl|exact ZAU|exact shape_C0 rfl);(intro _;dsimp only[ZC,z0,z1]))|(apply ZP;(exact tD);rfl;(exact oD);(exact hD);dsimp only[ZC,z0,z1])|((first|apply ZF|apply WD.op);(focus (first|exact wN|(apply SYG.yes;(exact wY);((first|exact ZBF|exact ZT|fail);all_goals infer_instance))));dsimp only[ZC,z0,z1])|(apply ZB;(exact oD);all_goals (intro h;try exact xD))|refine WC.skip ?_|refine WC.ret ?_|refine WC.exit ?_|refine WC.block ?_));all_goals (first|refine WC.id ?_|((repeat clear hK);(repeat clear Kx))))
  ·(refine WC.loopU (X:=List Vx) (fun c'=>[(1,dS ZM c'),(13,dA),(14,dA),(15,dA),(16,dA),(17,dA),(18,dA),(19,dA),(20,dA),(21,dA),(22,dA),(23,dA),(24,dA)]) (fun c'=>[]) (fun c'=>c'.length) (fun c'=>c'.length≤c.length/\ZBu a b=ZBu (a.drop k) c') c ?start ?frame0 ?objs0 ?round)
   case start=>exact⟨Nat.le_refl _,h2⟩
   case frame0=>exact zFr
   case objs0=>rfl
   case round =>
    rintro c' ⟨h3,h4⟩;dsimp only[ZL,z0,z1];((repeat' (first|((first|apply WL.opN|apply WD.opN);exact yF;dsimp only[ZC,z0,z1])|refine WL.nil ?_|refine WD.nil ?_|refine ZA fun Kx hK=>?_|(refine hK _ _ ?_;clear hK)|(refine Kont.skip ?_;clear hK)|refine WC.region ?_|(apply WC.draw;kernel_rfl;kernel_rfl)|((first|apply ZF|apply WD.op);(focus (first|exact wN|(apply SYG.yes;(exact wY);((first|(apply ZGd elV (OpD.t rfl) OpD.i 0 rfl;omega)|(apply ZGB elV (OpD.t rfl) OpD.i 1 rfl;omega)|exact ZCX|exact ZFN|exact ZHe|exact ZEn|exact ZBg|exact ZDf|exact ZA3|exact ZCV|fail);all_goals infer_instance))));dsimp only[ZC,z0,z1])|((first|refine ZK rfl rfl rfl (fun h=>?_) (fun h=>?_)|refine ZJ rfl rfl rfl (fun h=>?_) (fun h=>?_)|refine ZI rfl rfl rfl (fun h=>?_) (fun h=>?_)|refine ZW rfl rfl rfl (fun h=>?_) (fun h=>?_)|refine ZU rfl rfl rfl (fun h=>?_) (fun h=>?_)|refine ZS rfl rfl rfl (fun h=>?_) (fun h=>?_)) <;> (first|(exfalso;first|omega|contradiction)|(dsimp only[z0,z1])))|(apply ZQ;(exact oD);(with_reducible rfl))|(apply ZB;(exact oD);all_goals (intro h;try exact xD))|(apply ZG;(exact oD);all_goals (intro h;try exact xD))|refine WC.skip ?_|refine WC.ret ?_|refine WC.exit ?_|refine WC.block ?_|refine ThenD.n ?_|refine ThenD.r ?_|refine InBlockD.n ?_|refine InBlockD.r ?_));all_goals (first|((repeat clear hK);(repeat clear Kx))))
    all_goals rw[List.drop_eq_getElem_cons (show k<a.length by omega)] at h4
    ·have hc:c'=c'[0]::c'.drop 1:=by
      have:=List.drop_eq_getElem_cons (show 0<c'.length by omega);rwa[List.drop_zero] at this
     have hd:(c'.drop 1).length=c'.length-1:=List.length_drop;(refine zNx (c'.drop 1) ?_;(try dsimp only))
     refine⟨by omega,?_⟩;rw[List.drop_eq_getElem_cons (show k<a.length by omega),h4]
     conv=>lhs;rw[hc]
     exact ZNL h
    ·have hc:c'=a[k]::c'.drop 1:=by
      have:=List.drop_eq_getElem_cons (show 0<c'.length by omega);rw[List.drop_zero] at this;rw[this];congr 1
     (refine zNx (k+1,c') ?_;(try dsimp only))
     refine⟨by omega,?_⟩;show _=ZBu (a.drop (k+1)) c';rw[h4]
     conv=>lhs;rw[hc,ZPO]
     rw[<- hc]
    ·have hc:c'=[]:=List.eq_nil_of_length_eq_zero (by omega);(refine⟨trivial,_,rfl,?_⟩;refine FinD.b ?_)
     rw[h4,hc,ZPN]
  ·rw[List.drop_of_length_le (by omega)] at h2;(refine⟨trivial,_,rfl,?_⟩;refine FinD.b ?_)
   rw[h2];rfl
end
section
open Go.RowKit

abbrev ZRh (s:Cx) (p:List Vx->Bool):Dat:=ZK7 Tryz.prog (fun v:{v:List Vx // v∈s}=>[dS ZM v.1]) (fun v=>dB (p v.1))
theorem ZPQ (s:Cx) (p:List Vx->Bool) (hl:s.length≤1000000):Fn Tryz.prog 151 [dS Zh s,ZRh s p] (dS Zh (s.filter p)):=by
 (refine ZE Tryz.func151 rfl rfl ?_;simp only[Tryz.ntmps151,List.length_cons,List.length_nil,Nat.reduceAdd,Nat.reduceSub,List.replicate_succ,List.replicate_zero,List.cons_append,List.nil_append])
 (repeat' (first|(apply WL.opN;exact yF;dsimp only[ZC,z0,z1])|refine WL.nil ?_|refine ZA fun Kx hK=>?_|(refine hK _ _ ?_;clear hK)|refine WC.region ?_|(apply WL.opN;(focus ((first|exact ZA3|fail);all_goals infer_instance));dsimp only[ZC,z0,z1])|refine WC.block ?_))
 refine Zq 22 ZM ?_;(refine WC.loopU (X:=Nat × Value × Cx) (fun x=>[(5,dX x.2.1),(10,dI (x.1:Int)),(7,dA),(11,dA),(12,dA),(13,dA),(14,dA),(15,dA),(16,dA),(17,dA),(18,dA),(19,dA),(20,dA),(21,dA)]) (fun x=>[Zk x.2.1 22 ZM x.2.2]) (fun x=>s.length-x.1) (fun x=>x.1≤s.length/\x.2.2=(s.take x.1).filter p) (0,.slice none 0 0,[]) ?start ?frame0 ?objs0 ?round)
 case start=>exact⟨Nat.zero_le _,by simp⟩
 case frame0=>exact zFr
 case objs0=>rfl
 case round =>
  rintro⟨k,u,o⟩ ⟨h1,h2⟩;dsimp only[ZL,z0,z1];simp only at h1 h2;have hol:o.length≤1000000:=by
   have h5:=List.length_filter_le p (s.take k);rw[List.length_take] at h5;rw[h2];omega
  ((repeat' (first|(apply WL.opN;exact yF;dsimp only[ZC,z0,z1])|refine WL.nil ?_|refine ZA fun Kx hK=>?_|(refine hK _ _ ?_;clear hK)|(refine Kont.skip ?_;clear hK)|refine WC.region ?_|((first|apply Zs|apply Zl);(exact eD);exact OpD.t rfl;(exact oD);(intro _;exact hD);(exact(by simp));(exact(by simp));(first|exact⟨by decide,by decide⟩|skip);decide;(exact lD);(intro _;dsimp only[ZC,z0,z1]);all_goals (try infer_instance))|(apply WL.opN;(focus ((first|(apply ZBJ (x:=(⟨s[k],List.getElem_mem _⟩:{v:List Vx // v∈s}));(exact OpD.t rfl);(exact aD))|exact ZBF|exact ZBg|exact ZT|fail);all_goals infer_instance));dsimp only[ZC,z0,z1])|(apply ZB;(exact oD);all_goals (intro h;try exact xD))|(apply WC.cond;(exact oD);all_goals (intro h;try exact xD))|refine WC.skip ?_|refine WC.ret ?_|refine WC.exit ?_|refine WC.block ?_|refine ThenD.n ?_));all_goals (first|((repeat clear hK);(repeat clear Kx))))
  ·(refine zNx (k+1,_,o++[s[k]]) ?_;(try dsimp only))
   refine⟨by omega,?_⟩;show o++[s[k]]=_;rw[ZJ8 (by omega),if_pos h,<- h2]
  ·(refine zNx (k+1,u,o) ?_;(try dsimp only))
   refine⟨by omega,?_⟩;show o=_;rw[ZJ8 (by omega),if_neg (by rw[h];exact Bool.false_ne_true),List.append_nil,<- h2]
  ·rw[List.take_of_length_le (by omega)] at h2;subst h2;(refine⟨trivial,_,rfl,?_⟩;exact fD)
end
section
open Go.RowKit

theorem ZOn (f s:List Vx):Fn Tryz.prog 152 ([dS ZM f]++[dP 1 false (dS ZM s)]) (dB (ZBu s f)):=by
 show Fn Tryz.prog 152 [dS ZM f,dP 1 false (dS ZM s)] (dB (ZBu s f));(refine ZE Tryz.func152 rfl rfl ?_;simp only[Tryz.ntmps152,List.length_cons,List.length_nil,Nat.reduceAdd,Nat.reduceSub,List.replicate_succ,List.replicate_zero,List.cons_append,List.nil_append])
 ((repeat' (first|(apply WL.opN;exact yF;dsimp only[ZC,z0,z1])|refine WL.nil ?_|refine ZA fun Kx hK=>?_|(refine hK _ _ ?_;clear hK)|refine WC.region ?_|(apply WL.opN;(focus ((first|(apply SY.call (ZMJ _ _) Tryz.call124;(exact aD))|fail);all_goals infer_instance));dsimp only[ZC,z0,z1])|refine WC.ret ?_));all_goals (first|((repeat clear hK);(repeat clear Kx))))
 all_goals (refine⟨trivial,_,rfl,?_⟩;exact fD)
abbrev MemS (l:Cx):={v:List Vx // v∈l}
theorem ZRW (l:Cx) (s:List Vx) (hl:l.length≤1000000):Fn Tryz.prog 129 [dS Cpx l,dS ZM s] (dS Zh (l.filter (ZBu s))):=by
 (refine ZE Tryz.func129 rfl rfl ?_;simp only[Tryz.ntmps129,List.length_cons,List.length_nil,Nat.reduceAdd,Nat.reduceSub,List.replicate_succ,List.replicate_zero,List.cons_append,List.nil_append])
 ((repeat' (first|(apply WL.opN;exact yF;dsimp only[ZC,z0,z1])|refine WL.nil ?_|refine ZA fun Kx hK=>?_|(refine hK _ _ ?_;clear hK)|refine WC.region ?_|(apply WL.opN;(focus ((first|(apply ZBj (A:=fun v:MemS l=>[dS ZM v.1]) (r:=fun v=>dB (ZBu s v.1)) Tryz.call152 (fun v=>ZOn v.1 s) (fun _=>ZHs);(exact aD))|(apply SY.call (ZPQ l (ZBu s) hl) Tryz.call151;(exact aD))|exact Z3|exact ZEN|fail);all_goals infer_instance));dsimp only[ZC,z0,z1])|refine WC.ret ?_));all_goals (first|((repeat clear hK);(repeat clear Kx))))
 all_goals (refine⟨trivial,_,rfl,?_⟩;exact fD)
abbrev ZSs (at':List Int) (p:Int->Bool):Dat:=ZK7 Tryz.prog (fun i:{i:Int // i∈at'}=>[dI i.1]) (fun i=>dB (p i.1))
theorem ZVE (l:List Int) (p:Int->Bool):Fn Tryz.prog 119 [dS ZAR l,ZSs l p] (dI (ZH2 p 0 l)):=by
 (refine ZE Tryz.func119 rfl rfl ?_;simp only[Tryz.ntmps119,List.length_cons,List.length_nil,Nat.reduceAdd,Nat.reduceSub,List.replicate_succ,List.replicate_zero,List.cons_append,List.nil_append])
 (repeat' (first|(apply WL.opN;exact yF;dsimp only[ZC,z0,z1])|refine WL.nil ?_|refine ZA fun Kx hK=>?_|(refine hK _ _ ?_;clear hK)|refine WC.region ?_|(apply WL.opN;(focus ((first|exact ZA3|fail);all_goals infer_instance));dsimp only[ZC,z0,z1])|refine WC.block ?_))
 (first|refine ZR (t:=0) rfl ZEH fun hl0=>?_|refine ZR (t:=0) rfl ZDu fun hl0=>?_|refine ZR (t:=0) rfl ZJS fun hl0=>?_);simp only[maxLen] at hl0
 (refine WC.loopU (X:=Nat) (fun k=>[(8,dI (k:Int)),(4,dA),(5,dA),(9,dA),(10,dA),(11,dA),(12,dA),(13,dA),(14,dA),(15,dA),(16,dA),(17,dA),(18,dA)]) (fun k=>[]) (fun k=>l.length-k) (fun k=>k≤l.length/\ZH2 p 0 l=ZH2 p k (l.drop k)) 0 ?start ?frame0 ?objs0 ?round)
 case start=>exact⟨Nat.zero_le _,rfl⟩
 case frame0=>exact zFr
 case objs0=>rfl
 case round =>
  rintro k ⟨h1,h2⟩;dsimp only[ZL,z0,z1];((repeat' (first|(apply WL.opN;exact yF;dsimp only[ZC,z0,z1])|refine WL.nil ?_|refine ZA fun Kx hK=>?_|(refine hK _ _ ?_;clear hK)|(refine Kont.skip ?_;clear hK)|refine WC.region ?_|(apply WL.opN;(focus ((first|(apply ZBJ (x:=(⟨l[k],List.getElem_mem _⟩:{i:Int // i∈l}));(exact OpD.t rfl);(exact aD))|exact ZBF|exact ZBg|exact ZT|fail);all_goals infer_instance));dsimp only[ZC,z0,z1])|(apply ZB;(exact oD);all_goals (intro h;try exact xD))|(apply WC.cond;(exact oD);all_goals (intro h;try exact xD))|refine WC.skip ?_|refine WC.ret ?_|refine WC.exit ?_|refine WC.block ?_|refine ThenD.n ?_|refine ThenD.r ?_|refine InBlockD.r ?_));all_goals (first|((repeat clear hK);(repeat clear Kx))))
  ·(refine⟨trivial,_,rfl,?_⟩;refine FinD.i ?_)
   rw[h2,ZC7 (by omega),if_pos h]
  ·(refine zNx (k+1) ?_;(try dsimp only))
   exact⟨by omega,by rw[h2,ZC7 (by omega),if_neg (by simp[h])]⟩
  ·(refine⟨trivial,_,rfl,?_⟩;refine FinD.i ?_)
   rw[h2,List.drop_of_length_le (by omega)];rfl
theorem ZSr (l:List Int) (p:Int->Bool):Fn Tryz.prog 74 [dS ZAR l,ZSs l p] (dB (l.any p)):=by
 (refine ZE Tryz.func74 rfl rfl ?_;simp only[Tryz.ntmps74,List.length_cons,List.length_nil,Nat.reduceAdd,Nat.reduceSub,List.replicate_succ,List.replicate_zero,List.cons_append,List.nil_append])
 ((repeat' (first|(apply WL.opN;exact yF;dsimp only[ZC,z0,z1])|refine WL.nil ?_|refine ZA fun Kx hK=>?_|(refine hK _ _ ?_;clear hK)|refine WC.region ?_|(apply WL.opN;(focus ((first|(apply SY.call (ZVE _ _) Tryz.call119;(exact aD))|exact ZNu|fail);all_goals infer_instance));dsimp only[ZC,z0,z1])|refine WC.ret ?_));all_goals (first|((repeat clear hK);(repeat clear Kx))))
 all_goals ((refine⟨trivial,_,rfl,?_⟩;refine FinD.b ?_);exact ZGN _ _)
end
section
def Zd:List Vx->List Int->Vx->Int
 | u::vs,a::A,v=>if u=v then a else Zd vs A v
 | _,_,_=>0
theorem ZHz:∀ {vs:List Vx} {A:List Int} {v:Vx},v∉vs->Zd vs A v=0
 | [],_,_,_=>by unfold Zd;rfl
 | _::_,[],_,_=>by unfold Zd;rfl
 | u::vs,a::A,v,h=>by
  unfold Zd;rw[if_neg fun e=>h (by rw[e];exact List.mem_cons_self ..)];exact ZHz fun q=>h (List.mem_cons_of_mem _ q)
theorem ZJ9:∀ {vs:List Vx} {A:List Int} {i:Nat} (_:vs.Nodup) (h:i<vs.length) (h':i<A.length),Zd vs A vs[i]=A[i]
 | u::vs,a::A,0,_,_,_=>by
  show Zd (u::vs) (a::A) u=a;unfold Zd;exact if_pos rfl
 | u::vs,a::A,i+1,hn,h,h'=>by
  have hn':=List.nodup_cons.1 hn;have hi:i<vs.length:=Nat.lt_of_succ_lt_succ h;show Zd (u::vs) (a::A) vs[i]=A[i]'(Nat.lt_of_succ_lt_succ h');unfold Zd;rw[if_neg fun e=>hn'.1 (by rw[e];exact List.getElem_mem _)];exact ZJ9 hn'.2 hi (Nat.lt_of_succ_lt_succ h')
theorem ZNm {vs:List Vx} {v:Vx} {i:Nat} (ha:Asc vs) (h1:∀k (h:k<vs.length),k<i->ZAd vs[k] v<0) (h2:∀k (h:k<vs.length),i≤k->¬ ZAd vs[k] v<0) (hv:v∈vs):∃h:i<vs.length,vs[i]=v:=by
 obtain⟨k,hk,rfl⟩:=List.getElem_of_mem hv;have h0:¬ ZAd vs[k] vs[k]<0:=by
  unfold ZAd;rw[if_neg (by omega),if_neg (by omega),if_neg (by omega),if_neg (by omega)];decide
 have hik:i≤k:=Nat.le_of_not_lt fun q=>h0 (h1 k hk q);have hi:i<vs.length:=by omega
 refine⟨hi,?_⟩;rcases Nat.lt_or_ge i k with q|q
 ·exact absurd (List.pairwise_iff_getElem.1 ha i k hi hk q) (h2 i hi (Nat.le_refl _))
 ·obtain rfl:i=k:=by omega
  rfl
end
section
theorem ZO3 {v:Vx}:ZAC [v]=0↔ZDL v=true:=by
 rw[Zi];constructor
 ·exact fun h=>h.2.2.1 v (List.mem_singleton_self v)
 ·intro h;refine⟨by simp,by simp,fun u hu=>?_,by simp[Asc]⟩;rw[List.mem_singleton.1 hu];exact h
end
end Go.Proofs.YtofkoleingbbpaaGreatDoor
namespace Go.Proofs.YtofkoleingbbpaaGreatDoor.M
section
open Go.RowKit
section
variable {P:Program} {ops:Array Oper} {hp:List HObj} {o:Oper} {fr:List Dat} {d:Dat} {Q:Z5} {rest:List Oper}
variable {dst:Option Tmp} {ty:TypeId} {ps:String} {af:Array Edge} {g:Option (Nat × Bool)}
theorem WL.alloc {T:TypeId} {n:Nat} {agg:Bool} {z:Value} (hz:TyZ P T z) (hs:(dX z).Shape n agg)
  (h:∀b,WL P ops Q rest (ZC fr dst (dX (.pointer (some ⟨b,0,none⟩)))) (Zm b T n agg (dX z)::hp)):WL P ops Q (⟨dst,.alloc T,ty,ps,af,none⟩::rest) fr hp:=by
 refine WL.of fun P0 B w0 w a hh hf=>?_;obtain⟨cs,k1,k0,k2,k3,k4⟩:=hs (fun _=>True) w z rfl;have hrun:(execOp a.eval ⟨dst,.alloc T,ty,ps,af,none⟩).run P w = .ok (.value (.pointer (some ⟨w.heap.size,0,none⟩))) (w.alloc (.cells cs.toArray T)):=by
  cases hq:P.info? T with
  | none=>have:=hz.out;simp[hq] at this
  | some i =>
   have hz':i.zero=some z:=by have:=hz.out;simpa[hq] using this
   unfold execOp;simp[Instr.alloc,zeroValue,typeInfo,hq,hz',newVar,newRow,k3]
 refine Zr rfl hrun ?_;have hx:=Ext.of_alloc w (.cells cs.toArray T);have hb:∀k,(Zm w.heap.size T n agg (dX z)).blk=some k->w.heap.size≤k/\k<(w.alloc (.cells cs.toArray T)).heap.size:=fun k hk=>by
  cases hk;exact⟨Nat.le_refl _,by simp⟩
 refine(h w.heap.size).on ⟨hh.h.push hx.b hb ⟨cs,z,Zz w _,k1,k0,k2,k4,rfl⟩,hh.d⟩ ?_;exact Fr.put (hf.mono fun d _ hd=>ZAJ hx.b (fun k hk=>(hb k hk).1) hd) rfl

theorem ZC1 {x:Operand} {t b n:Nat} {T T2:TypeId} {agg:Bool} {d0:Dat} (hT:TyI P T n agg) (hp0:OpD fr (.tmp t) (dX (.pointer (some ⟨b,0,none⟩)))) (hx:OpD fr x d) (hs:d.Shape n agg)
  (h:WL P ops Q rest (ZC fr dst (dX undef)) (Zm b T2 n agg d::hp)):WL P ops Q (⟨dst,.store T (.tmp t) x,ty,ps,af,none⟩::rest) fr (Zm b T2 n agg d0::hp):=by
 refine WL.of fun P0 B w0 w a hh hf=>?_;obtain⟨cs,u,c1,c2,c0,c3,c4,c5⟩:=hh.h.ok (Zm b T2 n agg d0) (by simp);have h1:=hx.ev hf;obtain⟨cs',k1,k0,k2,k3,k4⟩:=hs _ _ _ h1;have h2:a.eval (.tmp t) = .pointer (some ⟨b,0,none⟩):=hp0.ev hf;have hr:=ZDG (u:=a.eval x) hT.size c1 c2 k1 k2 k3;have hrun:(execOp a.eval ⟨dst,.store T (.tmp t) x,ty,ps,af,none⟩).run P w = .ok .skip (w.setRow b cs'.toArray):=by
  unfold execOp;simp only[h2,Sem.run_bind,hr,Result.andThen_ok,Sem.run_pure]
 refine wpList_plain rfl fun K hK=>?_;unfold Oper.wp;rw[hrun];have hgr:w.grownBy (w.setRow b cs'.toArray) (Zm b T2 n agg d0).blk:=ZAM;have hok:(Zm b T2 n agg d).ok (fun k=>Imm P0 B (Zm b T2 n agg d0::hp) k/\k<w.heap.size) (w.setRow b cs'.toArray) :=
  ⟨cs',a.eval x,setRow_heap w b _ _ _ _ c1,k1,k0,k2,k4,d.grown (d.bound h1) hgr (fun k hk hc=>hc.1.2 _ (by simp) hk)⟩
 exact hK _ _ (h.on ⟨hh.h.write hgr (.inl rfl) hok,hh.d⟩ (Fr.put (hf.mono fun _ _ hd=>Ze (o':=Zm b T2 n agg d) hgr (.inl rfl) hd) (d:=dX undef) rfl))
theorem ZGh {t b n:Nat} {T:TypeId} {agg:Bool} (hp0:fr[t]?=some (dX (.pointer (some ⟨b,0,none⟩)))) (h:WL P ops Q rest (fr.set t (dP n agg d)) hp):WL P ops Q rest fr (Zm b T n agg d::hp):=by
 refine WL.of fun P0 B w0 w a hh hf=>?_;obtain⟨cs,u,c1,c2,c0,c3,c4,c5⟩:=hh.h.ok (Zm b T n agg d) (by simp);have hown:=hh.h.own (Zm b T n agg d) (by simp) b rfl;refine h.on ⟨hh.h.drop,hh.d⟩ ⟨hf.defers,by rw[hf.size,List.length_set],fun t' d' hd'=>?_⟩;by_cases htt:t=t'
 ·subst htt;rw[List.getElem?_set] at hd';simp only[if_true] at hd';split at hd'
  ·cases hd';have hv:a.tmps.getD t undef = .pointer (some ⟨b,0,none⟩):=hf.rd t _ hp0;rw[hv];refine⟨b,0,u,rfl,ZA6 c1 c2 c0 c3 c4 ⟨.inr hown.1,fun o' ho' hk=>?_⟩,d.weak c5 Imm.sub⟩;exact(List.pairwise_cons.1 hh.h.apart).1 o' ho' b rfl hk
  ·cases hd'
 ·rw[List.getElem?_set_ne htt] at hd';exact d'.weak (hf.rd t' d' hd') Imm.sub
theorem ZP {x:Operand} {t b n:Nat} {T T2:TypeId} {agg:Bool} {d0:Dat} (hT:TyI P T n agg) (hp0:fr[t]?=some (dX (.pointer (some ⟨b,0,none⟩)))) (hx:OpD fr x d) (hs:d.Shape n agg)
  (h:WL P ops Q rest (fr.set t (dP n agg d)) hp):WL P ops Q (⟨none,.store T (.tmp t) x,ty,ps,af,none⟩::rest) fr (Zm b T2 n agg d0::hp) :=
 ZC1 hT (OpD.t hp0) hx hs (ZGh hp0 h)
end
end
section
open Go.RowKit

theorem ZO5 (a b:List Vx):Fn Tryz.prog 122 [dS ZM a,dS ZM b,ZK7 Tryz.prog (fun x:Vx × Vx=>[dS RV x.1,dS RV x.2]) (fun x=>dI (ZAd x.1 x.2))] (dI (ZAb a b)):=by
 (refine ZE Tryz.func122 rfl rfl ?_;simp only[Tryz.ntmps122,List.length_cons,List.length_nil,Nat.reduceAdd,Nat.reduceSub,List.replicate_succ,List.replicate_zero,List.cons_append,List.nil_append])
 (repeat' (first|(apply ZF;(focus (apply SYG.yes;(exact Za rfl);(first|(apply SY.move <;> (exact oD))|(apply SY.assign <;> (exact oD))|(apply SY.load;(exact tD);(exact OpD.t rfl)))));dsimp only[ZC,z0,z1])|refine WL.nil ?_|refine ZA fun Kx hK=>?_|(refine hK _ _ ?_;clear hK)|refine WC.region ?_|(apply ZF;(focus (apply SYG.yes;(exact Za rfl);((first|(apply SY.len;(exact oD);(exact nD);(exact uD))|fail);all_goals infer_instance)));dsimp only[ZC,z0,z1])|refine WC.block ?_))
 (first|refine ZR (t:=0) rfl ZEH fun hl0=>?_|refine ZR (t:=0) rfl ZDu fun hl0=>?_);simp only[maxLen] at hl0
 (first|refine ZR (t:=1) rfl ZEH fun hl1=>?_|refine ZR (t:=1) rfl ZDu fun hl1=>?_);simp only[maxLen] at hl1
 (refine WC.loopU (X:=Nat) (fun k=>[(13,dI (k:Int)),(6,dA),(7,dA),(8,dA),(9,dA),(10,dA),(14,dA),(15,dA),(16,dA),(17,dA),(18,dA),(19,dA),(20,dA),(21,dA),(22,dA),(23,dA),(24,dA),(25,dA),(26,dA),(27,dA),(28,dA),(29,dA),(30,dA),(31,dA),(32,dA),(33,dA)]) (fun k=>[]) (fun k=>a.length-k) (fun k=>k≤a.length/\k≤b.length/\ZAb a b=ZAb (a.drop k) (b.drop k)) 0 ?start ?frame0 ?objs0 ?round)
 case start=>exact⟨Nat.zero_le _,Nat.zero_le _,rfl⟩
 case frame0=>exact zFr
 case objs0=>rfl
 case round =>
  rintro k ⟨h1,h2,h3⟩;dsimp only[ZL,z0,z1];((repeat' (first|(apply ZF;(focus (apply SYG.yes;(exact Za rfl);(first|(apply SY.move <;> (exact oD))|(apply SY.assign <;> (exact oD))|(apply SY.load;(exact tD);(exact OpD.t rfl)))));dsimp only[ZC,z0,z1])|refine WL.nil ?_|refine ZA fun Kx hK=>?_|(refine hK _ _ ?_;clear hK)|(refine Kont.skip ?_;clear hK)|refine WC.region ?_|(apply WL.alloc;(exact tzV);(first|exact Zw rfl|exact ZAU);(intro _;dsimp only[ZC,z0,z1]))|(apply ZP;(exact tD);rfl;(exact oD);(exact hD);dsimp only[ZC,z0,z1])|(apply ZF;(focus (apply SYG.yes;(exact Za rfl);((first|(apply ZBJ (x:=((a[k],b[k]):Vx × Vx));(exact OpD.t rfl);(exact aD))|((first|apply SY.move|apply SY.assign|apply SY.lss|apply SY.geq|apply SY.neq) <;> (exact oD))|((first|apply SY.add) <;> first|exact oD|omega)|(apply SY.len;(exact oD);(exact nD);(exact uD))|(apply Zn;(exact eD);(exact oD);(exact oD);exact kD)|fail);all_goals infer_instance)));dsimp only[ZC,z0,z1])|(apply ZB;(exact oD);(all_goals intro h);(all_goals try (exfalso;first|omega|contradiction)))|(apply ZG;(exact oD);(all_goals intro h);(all_goals try (exfalso;first|omega|contradiction)))|refine WC.skip ?_|refine WC.ret ?_|refine WC.exit ?_|refine WC.block ?_|refine ThenD.n ?_|refine ThenD.r ?_|refine InBlockD.r ?_));all_goals (first|((repeat clear hK);(repeat clear Kx))))
  all_goals first
   | ((refine zNx (k+1) ?_;(try dsimp only));exact⟨by omega,by omega,h3.trans (ZGw (by omega) (by omega) (by assumption))⟩)
   | ((refine⟨trivial,_,rfl,?_⟩;refine FinD.i ?_);rw[h3,ZEv];repeat' split) <;> first|rfl|contradiction|omega
theorem ZHx (a b:List Vx):Fn Tryz.prog 80 [dS ZM a,dS ZM b] (dI (ZAb a b)):=by
 (refine ZE Tryz.func80 rfl rfl ?_;simp only[Tryz.ntmps80,List.length_cons,List.length_nil,Nat.reduceAdd,Nat.reduceSub,List.replicate_succ,List.replicate_zero,List.cons_append,List.nil_append])
 ((repeat' (first|(apply ZF;(focus (apply SYG.yes;(exact Za rfl);(first|(apply SY.move <;> (exact oD))|(apply SY.assign <;> (exact oD)))));dsimp only[ZC,z0,z1])|refine WL.nil ?_|refine ZA fun Kx hK=>?_|(refine hK _ _ ?_;clear hK)|refine WC.region ?_|(apply ZF;(focus (apply SYG.yes;(exact Za rfl);((first|(apply SY.call (ZO5 _ _) Tryz.call122;(exact aD))|fail);all_goals infer_instance)));dsimp only[ZC,z0,z1])|refine WC.ret ?_));all_goals (first|((repeat clear hK);(repeat clear Kx))))
 all_goals ((refine⟨trivial,_,rfl,?_⟩;refine FinD.i ?_);try rfl)
theorem ZUz {I:Nat->Prop} {w:World} {u v:Value} {a b:List Vx} (hu:ZM I w u a) (hv:ZM I w v b):Calls Tryz.prog 80 #[u,v] w fun e w'=>e = .returned (.int .i64 (ZAb a b))/\∃q os',w'=Go.Sort.grow (w.drewN q) os':=by
 have:=(ZHx a b).out I w [u,v] rfl (fun i d hd=>by
  match i with
  | 0=>cases hd;exact hu
  | 1=>cases hd;exact hv
  | i+2=>simp at hd)
 exact this.mono fun e w' ⟨v,h1,h2,h3⟩=>⟨by rw[h1];exact congrArg _ h3,h2.grow⟩
end
section
open Go.RowKit

section
variable {P:Program} {ops:Array Oper} {hp:List HObj} {fr:List Dat} {dst:Option Tmp} {ty:TypeId} {ps:String} {af:Array Edge} {g:Option (Nat × Bool)} {t e:TypeId} {n bytes:Nat} {z:Value} {ag:Bool}
theorem SY.buildE (E:ElT P t e n z bytes ag) {α:Type} {R:Rel α} {_gR:Good R} {len:Nat} {parts:Array (Nat × Operand)} {els:List α} (hx:ElsD fr R (parts.toList.map Prod.snd) els) (hparts:parts.toList=((parts.toList.map Prod.snd).zipIdx).map (fun p=>(p.2,p.1))) (hl:len=els.length) (hn:0<n) (hs:∀a,(dS R a).Shape n true) (hsm:els.length*n≤16777216) :
  SY P ops hp ⟨dst,.buildSlice t len parts,ty,ps,af,g⟩ fr (dS (ArrK n R) els):=SY.buildK E hx hparts hl hn hs hsm
end
theorem ZMH (x y:Vx):ZAb [x] [y]=ZAd x y:=by
 unfold ZAb;by_cases h:ZAd x y=0
 ·rw[if_pos h,h];rfl
 ·rw[if_neg h]
theorem vtx_p (x y:Vx):Fn Tryz.prog 149 [dS RV x,dS RV y] (dI (ZAd x y)):=by
 (refine ZE Tryz.func149 rfl rfl ?_;simp only[Tryz.ntmps149,List.length_cons,List.length_nil,Nat.reduceAdd,Nat.reduceSub,List.replicate_succ,List.replicate_zero,List.cons_append,List.nil_append])
 ((repeat' (first|(apply ZF;(focus (apply SYG.yes;(exact Za rfl);(first|(apply SY.assign <;> (exact oD))|(apply SY.load;(exact tD);(exact OpD.t rfl)))));dsimp only[ZC,z0,z1])|refine WL.nil ?_|refine ZA fun Kx hK=>?_|(refine hK _ _ ?_;clear hK)|refine WC.region ?_|(apply ZF;(focus (apply SYG.yes;(exact Za rfl);((first|(apply SY.call (ZHx [x] [y]) Tryz.call80;(exact aD))|(apply SY.buildE;(exact eD);((try simp only[List.map_cons,List.map_nil]);(repeat (first|exact Zp|(apply Zo;(first|exact OpD.t rfl|exact OpD.i|exact OpD.b|exact OpD.tle rfl (by first|exact ZN|exact ZH (by decide))|exact⟨ZN⟩|exact⟨ZH (by decide)⟩)))));rfl;rfl;decide;(intro _;exact ZAj);(exact(by simp)))|(apply SY.box;(exact oD);(exact hD))|fail);all_goals infer_instance)));dsimp only[ZC,z0,z1])|refine WC.ret ?_));all_goals (first|((repeat clear hK);(repeat clear Kx))))
 all_goals (rw[ZMH];(refine⟨trivial,_,rfl,?_⟩;refine FinD.i ?_);try rfl)
theorem vtx_x (x y:Vx) (w:World):Calls Tryz.prog 149 #[.agg #[.int .i64 x.1,.int .i64 x.2],.agg #[.int .i64 y.1,.int .i64 y.2]] w fun e w'=>e = .returned (.int .i64 (ZAd x y))/\∃q os',w'=Go.Sort.grow (w.drewN q) os':=by
 have:=(vtx_p x y).out (fun _=>True) w [.agg #[.int .i64 x.1,.int .i64 x.2],.agg #[.int .i64 y.1,.int .i64 y.2]] rfl (fun i d hd=>by
  match i with
  | 0=>cases hd;rfl
  | 1=>cases hd;rfl
  | i+2=>simp at hd)
 exact this.mono fun e w' ⟨v,h1,h2,h3⟩=>⟨by rw[h1];exact congrArg _ h3,h2.grow⟩
end
end Go.Proofs.YtofkoleingbbpaaGreatDoor.M
namespace Go.Proofs.YtofkoleingbbpaaGreatDoor
section
theorem ZEw {a b c:List Vx} (h:ZAb a b<0) (k:ZAb b c<0):ZAb a c<0:=by
 obtain⟨h1,h2⟩:=ZEA a b c (by omega) (by omega);rcases Int.lt_or_eq_of_le h1 with h3|h3
 ·exact h3
 ·have:=h2 h3;omega
theorem ZGI (a:List Vx):ZAb a a=0:=ZBM.2 rfl
theorem ZHw (a b:List Vx):ZAb a b<0\/ZAb b a<0\/a=b:=by
 have h:=ZD9 a b;by_cases h1:ZAb a b<0
 ·exact .inl h1
 by_cases h2:ZAb b a<0
 ·exact .inr (.inl h2)
 ·exact .inr (.inr (ZBM.1 (by omega)))
def SortL (xs:Cx):Prop:=xs.Pairwise fun a b=>¬ ZAb b a<0
def AscL (xs:Cx):Prop:=xs.Pairwise fun a b=>ZAb a b<0
theorem ZMB:∀ {a b:Cx},AscL a->AscL b->(∀x,x∈a↔x∈b)->a=b
 | [],[],_,_,_=>rfl
 | [],y::b,_,_,h=>absurd ((h y).2 (by simp)) (by simp)
 | x::a,[],_,_,h=>absurd ((h x).1 (by simp)) (by simp)
 | x::a,y::b,ha,hb,h=>by
  unfold AscL at ha hb;rw[List.pairwise_cons] at ha hb;have hxy:x=y:=by
   have h1:=(h x).1 (by simp);have h2:=(h y).2 (by simp);rw[List.mem_cons] at h1 h2;rcases h1 with h1|h1
   ·exact h1
   rcases h2 with h2|h2
   ·exact h2.symm
   have h3:=hb.1 x h1;have h4:=ha.1 y h2;have:=ZD9 x y;omega
  subst hxy;rw[ZMB ha.2 hb.2 fun z=>?_];have h1:=h z;rw[List.mem_cons,List.mem_cons] at h1;constructor
  ·intro hz;rcases h1.1 (.inr hz) with rfl|h2
   ·have:=ha.1 z hz;have:=ZGI z;omega
   ·exact h2
  ·intro hz;rcases h1.2 (.inr hz) with rfl|h2
   ·have:=hb.1 z hz;have:=ZGI z;omega
   ·exact h2
theorem AscL.nodup {a:Cx} (h:AscL a):a.Nodup:=List.Pairwise.imp (fun {x y} hxy hc=>by
 subst hc;have:=ZGI x;omega) h
theorem ZIo:∀ {l:Cx} {s x:List Vx},x∈ZFK l s↔x=s\/x∈l
 | [],s,x=>by simp[ZFK]
 | y::l,s,x=>by
  unfold ZFK;split
  ·simp
  ·rw[List.mem_cons,ZIo,List.mem_cons];constructor
   ·rintro(h|h|h) <;> simp[h]
   ·rintro(h|h|h) <;> simp[h]
theorem ZSE {l:Cx} {s x:List Vx}:x∈ZCb l s↔x=s\/x∈l:=by
 unfold ZCb;split
 ·rename_i h;exact⟨.inr,fun h'=>h'.elim (fun e=>e ▸ h) id⟩
 ·exact ZIo
theorem ZMR:∀ {l:Cx} {s:List Vx},AscL l->s∉l->AscL (ZFK l s)
 | [],s,_,_=>by simp[ZFK,AscL]
 | y::l,s,h,hs=>by
  have h':=h;unfold AscL at h';rw[List.pairwise_cons] at h';unfold ZFK;split
  ·rename_i hlt;unfold AscL;rw[List.pairwise_cons];refine⟨fun a ha=>?_,h⟩;rcases List.mem_cons.1 ha with rfl|ha
   ·exact hlt
   ·exact ZEw hlt (h'.1 a ha)
  ·rename_i hlt;unfold AscL;rw[List.pairwise_cons];refine⟨fun a ha=>?_,ZMR h'.2 fun hc=>hs (by simp[hc])⟩;rcases ZIo.1 ha with rfl|ha
   ·rcases ZHw a y with k|k|k
    ·exact absurd k hlt
    ·exact k
    ·exact absurd (by rw[k];simp) hs
   ·exact h'.1 a ha
theorem ZSC {l:Cx} {s:List Vx} (h:AscL l):AscL (ZCb l s):=by
 unfold ZCb;split
 ·exact h
 ·rename_i hs;exact ZMR h hs
theorem ZG5:∀ {l out:Cx},AscL out->AscL (l.foldl ZCb out)
 | [],_,h=>h
 | s::l,out,h=>ZG5 (l:=l) (ZSC h)
theorem ZG6:∀ {l out:Cx} {x:List Vx},x∈l.foldl ZCb out↔x∈l\/x∈out
 | [],out,x=>by simp
 | s::l,out,x=>by
  rw[List.foldl_cons,ZG6 (l:=l),ZSE,List.mem_cons];constructor
  ·rintro(h|h|h) <;> simp[h]
  ·rintro((h|h)|h) <;> simp[h]
theorem ZFy {l:Cx} {s:List Vx}:ZEB l s=true↔∃x∈l,s.length<x.length/\Z8 s x=true:=by
 unfold ZEB;simp
end
section
open Go.RowKit

def ZRg (l:Cx) (s:List Vx) (i:Int):Bool:=decide (s.length<(l.getD i.toNat []).length) && ZBu s (l.getD i.toNat [])
theorem ZU1 (l:Cx) (s:List Vx) (i:Int) (h0:0≤i) (h1:i<l.length):Fn Tryz.prog 123 ([dI i]++[dP 1 false (dS Zh l),dP 1 false (dS ZM s)]) (dB (ZRg l s i)):=by
 obtain⟨k,rfl⟩:∃k:Nat,i=k:=⟨i.toNat,by omega⟩;have hk:k<l.length:=by omega
 have e:ZRg l s (k:Int)=(decide (s.length<l[k].length) && ZBu s l[k]):=by
  unfold ZRg;rw[Int.toNat_natCast,show l.getD k []=l[k] by simp[List.getD,hk]]
 rw[e];show Fn Tryz.prog 123 [dI (k:Int),dP 1 false (dS Zh l),dP 1 false (dS ZM s)] _;(refine ZE Tryz.func123 rfl rfl ?_;simp only[Tryz.ntmps123,List.length_cons,List.length_nil,Nat.reduceAdd,Nat.reduceSub,List.replicate_succ,List.replicate_zero,List.cons_append,List.nil_append])
 ((repeat' (first|((first|apply WL.opN|apply WD.opN);exact yF;dsimp only[ZC,z0,z1])|refine WL.nil ?_|refine WD.nil ?_|refine ZA fun Kx hK=>?_|(refine hK _ _ ?_;clear hK)|refine WC.region ?_|(apply WC.draw;kernel_rfl;kernel_rfl)|((first|apply ZF|apply WD.op);(focus (first|exact wN|(apply SYG.yes;(exact wY);((first|(apply SY.call (ZMJ _ _) Tryz.call124;(exact aD))|exact ZCX|exact ZFN|exact ZDf|exact ZA3|exact ZT|exact ZCV|fail);all_goals infer_instance))));dsimp only[ZC,z0,z1])|((first|refine ZK rfl rfl rfl (fun h=>?_) (fun h=>?_)|refine ZJ rfl rfl rfl (fun h=>?_) (fun h=>?_)|refine ZI rfl rfl rfl (fun h=>?_) (fun h=>?_)|refine ZW rfl rfl rfl (fun h=>?_) (fun h=>?_)|refine ZU rfl rfl rfl (fun h=>?_) (fun h=>?_)|refine ZS rfl rfl rfl (fun h=>?_) (fun h=>?_)) <;> (first|(exfalso;first|omega|contradiction)|(dsimp only[z0,z1])))|refine WC.ret ?_));all_goals (first|((repeat clear hK);(repeat clear Kx))))
 ·rw[decide_eq_true (show s.length<l[k].length by omega),Bool.true_and];(refine⟨trivial,_,rfl,?_⟩;exact fD)
 ·rw[decide_eq_false (show ¬ s.length<l[k].length by omega),Bool.false_and];(refine⟨trivial,_,rfl,?_⟩;exact fD)
abbrev MemI (l:List Int):={v:Int // v∈l}
theorem ZNI (l:Cx) (at':List Int) (s:List Vx) (hat:∀i∈at',0≤i/\i<l.length):Fn Tryz.prog 82 [dS Zh l,dS ZAR at',dS ZM s] (dB (at'.any (ZRg l s))):=by
 (refine ZE Tryz.func82 rfl rfl ?_;simp only[Tryz.ntmps82,List.length_cons,List.length_nil,Nat.reduceAdd,Nat.reduceSub,List.replicate_succ,List.replicate_zero,List.cons_append,List.nil_append])
 ((repeat' (first|(apply WL.opN;exact yF;dsimp only[ZC,z0,z1])|refine WL.nil ?_|refine ZA fun Kx hK=>?_|(refine hK _ _ ?_;clear hK)|refine WC.region ?_|(apply WL.opN;(focus ((first|(apply ZBj (A:=fun v:MemI at'=>[dI v.1]) (r:=fun v=>dB (ZRg l s v.1)) Tryz.call123 (fun v=>ZU1 l s v.1 (hat v.1 v.2).1 (hat v.1 v.2).2) (fun _=>ZHs);(exact aD))|(apply SY.call (ZSr at' (ZRg l s)) Tryz.call74;(exact aD))|exact ZEN|fail);all_goals infer_instance));dsimp only[ZC,z0,z1])|refine WC.ret ?_));all_goals (first|((repeat clear hK);(repeat clear Kx))))
 all_goals (refine⟨trivial,_,rfl,?_⟩;exact fD)
end
end Go.Proofs.YtofkoleingbbpaaGreatDoor
