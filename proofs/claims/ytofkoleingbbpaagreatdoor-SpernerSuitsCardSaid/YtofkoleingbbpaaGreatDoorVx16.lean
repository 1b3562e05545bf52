/- Part 16: walks by contracts, and plain laws. -/
import Derived.Test.YtofkoleingbbpaaGreatDoorVx15
set_option linter.unusedVariables false
set_option linter.unusedSimpArgs false
set_option linter.unusedSectionVars false
set_option maxRecDepth 100000
set_option maxHeartbeats 4000000
namespace Go.Proofs.YtofkoleingbbpaaGreatDoor
section
open Go.RowKit

def ZBP:List Vx->List Vx->Bool
 | [],_=>true
 | v::a,b=>if (b.dropWhile fun x=>decide (x≠v))=[] then false else ZBP a (b.dropWhile fun x=>decide (x≠v))
theorem ZKy {v x:Vx} {a c:List Vx} (h:x≠v):ZBP (v::a) (x::c)=ZBP (v::a) c:=by
 unfold ZBP
 rw [List.dropWhile_cons_of_pos (by simpa using h)]
theorem ZM4 {v:Vx} {a c:List Vx}:ZBP (v::a) (v::c)=ZBP a (v::c):=by
 conv=>lhs;unfold ZBP
 rw [List.dropWhile_cons_of_neg (by simp)]
 simp
theorem ZM3 {v:Vx} {a:List Vx}:ZBP (v::a) []=false:=by unfold ZBP;simp
theorem ZJv (a b:List Vx):Fn Tryz.prog 124 [dS ZJ a,dS ZJ b] (dB (ZBP a b)):=by
 (refine ZE Tryz.func124 rfl rfl ?_;simp only [Tryz.ntmps124,List.length_cons,List.length_nil,Nat.reduceAdd,Nat.reduceSub,List.replicate_succ,List.replicate_zero,List.cons_append,List.nil_append])
 (repeat' (first|((first|apply WL.opN|apply WD.opN);exact yF;dsimp only [ZB,z0,z1])|refine WL.nil ?_|refine ZA fun Kx hK=>?_|(refine hK _ _ ?_;clear hK)|refine WC.region ?_|((first|apply ZF|apply WD.op);(focus (first|exact wN|(apply SYG.yes;(exact wY);((first|exact ZBg|fail);all_goals infer_instance))));dsimp only [ZB,z0,z1])|refine WC.block ?_))
 (first|refine ZQ (t:=0) rfl ZEX fun hl0=>?_|refine ZQ (t:=0) rfl ZD7 fun hl0=>?_|refine ZQ (t:=0) rfl ZLZ fun hl0=>?_);simp only [maxLen] at hl0
 (refine WC.loopU (X:=Nat × List Vx) (fun x=>[(9,dI (x.1:Int)),(1,dS ZJ x.2),(4,dA),(6,dA),(10,dA),(11,dA),(12,dA),(13,dA),(14,dA),(15,dA),(16,dA),(17,dA),(18,dA),(19,dA),(20,dA),(21,dA),(22,dA),(23,dA),(24,dA),(25,dA),(26,dA),(27,dA),(28,dA)]) (fun x=>[]) (fun x=>a.length-x.1) (fun x=>x.1≤a.length/\ZBP a b=ZBP (a.drop x.1) x.2) (0,b) ?start ?frame0 ?objs0 ?round)
 case start=>exact ⟨Nat.zero_le _,rfl⟩
 case frame0=>((try dsimp only [ZK,z0,z1]);repeat (first|exact LeF.nil|refine ZD (k:=?_)))
 case objs0=>rfl
 case round =>
  rintro ⟨k,c⟩ ⟨h1,h2⟩
  simp only at h1 h2
  dsimp only [ZK,z0,z1]
  ((repeat' (first|((first|apply WL.opN|apply WD.opN);exact yF;dsimp only [ZB,z0,z1])|refine WL.nil ?_|refine ZA fun Kx hK=>?_|(refine hK _ _ ?_;clear hK)|(refine Kont.skip ?_;clear hK)|refine WC.region ?_|(apply WL.alloc;(first|exact tzV|exact tzC);(first|exact Zs rfl|exact ZAJ|exact shape_C0 rfl);(intro _;dsimp only [ZB,z0,z1]))|(apply ZR;(exact tD);rfl;(exact oD);(exact hD);dsimp only [ZB,z0,z1])|((first|apply ZF|apply WD.op);(focus (first|exact wN|(apply SYG.yes;(exact wY);((first|exact ZBx|exact ZV|fail);all_goals infer_instance))));dsimp only [ZB,z0,z1])|(apply ZC;(exact oD);all_goals (intro h;try exact xD))|refine WC.skip ?_|refine WC.ret ?_|refine WC.exit ?_|refine WC.block ?_));all_goals (first|refine WC.id ?_|((repeat clear hK);(repeat clear Kx))))
  ·(refine WC.loopU (X:=List Vx) (fun c'=>[(1,dS ZJ c'),(13,dA),(14,dA),(15,dA),(16,dA),(17,dA),(18,dA),(19,dA),(20,dA),(21,dA),(22,dA),(23,dA),(24,dA)]) (fun c'=>[]) (fun c'=>c'.length) (fun c'=>c'.length≤c.length/\ZBP a b=ZBP (a.drop k) c') c ?start ?frame0 ?objs0 ?round)
   case start=>exact ⟨Nat.le_refl _,h2⟩
   case frame0=>((try dsimp only [ZK,z0,z1]);repeat (first|exact LeF.nil|refine ZD (k:=?_)))
   case objs0=>rfl
   case round =>
    rintro c' ⟨h3,h4⟩
    dsimp only [ZK,z0,z1]
    ((repeat' (first|((first|apply WL.opN|apply WD.opN);exact yF;dsimp only [ZB,z0,z1])|refine WL.nil ?_|refine WD.nil ?_|refine ZA fun Kx hK=>?_|(refine hK _ _ ?_;clear hK)|(refine Kont.skip ?_;clear hK)|refine WC.region ?_|(apply WC.draw;kernel_rfl;kernel_rfl)|((first|apply ZF|apply WD.op);(focus (first|exact wN|(apply SYG.yes;(exact wY);((first|(apply ZGX elV (OpD.t rfl) OpD.i 0 rfl;omega)|(apply ZJX elV (OpD.t rfl) OpD.i 1 rfl;omega)|exact ZDv|exact ZGN|exact ZOR|exact ZEu|exact ZC5|exact ZEg|exact ZBg|exact ZDY|fail);all_goals infer_instance))));dsimp only [ZB,z0,z1])|((first|refine ZN rfl rfl rfl (fun h=>?_) (fun h=>?_)|refine ZM rfl rfl rfl (fun h=>?_) (fun h=>?_)|refine ZL rfl rfl rfl (fun h=>?_) (fun h=>?_)|refine Za rfl rfl rfl (fun h=>?_) (fun h=>?_)|refine ZZ rfl rfl rfl (fun h=>?_) (fun h=>?_)|refine ZW rfl rfl rfl (fun h=>?_) (fun h=>?_)) <;> (first|(exfalso;first|omega|contradiction)|(dsimp only [z0,z1])))|(apply ZY;(exact oD);(with_reducible rfl))|(apply ZC;(exact oD);all_goals (intro h;try exact xD))|(apply ZG;(exact oD);all_goals (intro h;try exact xD))|refine WC.skip ?_|refine WC.ret ?_|refine WC.exit ?_|refine WC.block ?_|refine ThenD.n ?_|refine ThenD.r ?_|refine InBlockD.n ?_|refine InBlockD.r ?_));all_goals (first|((repeat clear hK);(repeat clear Kx))))
    all_goals rw [List.drop_eq_getElem_cons (show k<a.length by omega)] at h4
    ·have hc:c'=c'[0]::c'.drop 1:=by
      have:=List.drop_eq_getElem_cons (show 0<c'.length by omega)
      rwa [List.drop_zero] at this
     have hd:(c'.drop 1).length=c'.length-1:=List.length_drop
     (refine ⟨c'.drop 1,?_,by first|omega|(simp only;omega),rfl,?_⟩;rotate_left;((try dsimp only [ZK,z0,z1]);repeat (first|exact LeF.nil|refine ZD (k:=?_)));(try dsimp only))
     refine ⟨by omega,?_⟩
     rw [List.drop_eq_getElem_cons (show k<a.length by omega),h4]
     conv=>lhs;rw [hc]
     exact ZKy h
    ·have hc:c'=a[k]::c'.drop 1:=by
      have:=List.drop_eq_getElem_cons (show 0<c'.length by omega)
      rw [List.drop_zero] at this
      rw [this];congr 1
     (refine ⟨(k+1,c'),?_,by first|omega|(simp only;omega),rfl,?_⟩;rotate_left;((try dsimp only [ZK,z0,z1]);repeat (first|exact LeF.nil|refine ZD (k:=?_)));(try dsimp only))
     refine ⟨by omega,?_⟩
     show _=ZBP (a.drop (k+1)) c'
     rw [h4]
     conv=>lhs;rw [hc,ZM4]
     rw [<- hc]
    ·have hc:c'=[]:=List.eq_nil_of_length_eq_zero (by omega)
     (refine ⟨trivial,_,rfl,?_⟩;refine FinD.b ?_)
     rw [h4,hc,ZM3]
  ·rw [List.drop_of_length_le (by omega)] at h2
   (refine ⟨trivial,_,rfl,?_⟩;refine FinD.b ?_)
   rw [h2];rfl
end
section
open Go.RowKit

abbrev ZPF (s:Cx) (p:List Vx->Bool):Dat:=ZIs Tryz.prog (fun v:{v:List Vx // v∈s}=>[dS ZJ v.1]) (fun v=>dB (p v.1))
set_option maxHeartbeats 1000000 in
theorem ZM8 (s:Cx) (p:List Vx->Bool) (hl:s.length≤1000000):Fn Tryz.prog 151 [dS Zv s,ZPF s p] (dS Zv (s.filter p)):=by
 (refine ZE Tryz.func151 rfl rfl ?_;simp only [Tryz.ntmps151,List.length_cons,List.length_nil,Nat.reduceAdd,Nat.reduceSub,List.replicate_succ,List.replicate_zero,List.cons_append,List.nil_append])
 (repeat' (first|(apply WL.opN;exact yF;dsimp only [ZB,z0,z1])|refine WL.nil ?_|refine ZA fun Kx hK=>?_|(refine hK _ _ ?_;clear hK)|refine WC.region ?_|(apply WL.opN;(focus ((first|exact ZBg|fail);all_goals infer_instance));dsimp only [ZB,z0,z1])|refine WC.block ?_))
 refine ZAH 22 ZJ ?_
 (refine WC.loopU (X:=Nat × Value × Cx) (fun x=>[(5,dX x.2.1),(10,dI (x.1:Int)),(7,dA),(11,dA),(12,dA),(13,dA),(14,dA),(15,dA),(16,dA),(17,dA),(18,dA),(19,dA),(20,dA),(21,dA)]) (fun x=>[Zn x.2.1 22 ZJ x.2.2]) (fun x=>s.length-x.1) (fun x=>x.1≤s.length/\x.2.2=(s.take x.1).filter p) (0,.slice none 0 0,[]) ?start ?frame0 ?objs0 ?round)
 case start=>exact ⟨Nat.zero_le _,by simp⟩
 case frame0=>((try dsimp only [ZK,z0,z1]);repeat (first|exact LeF.nil|refine ZD (k:=?_)))
 case objs0=>rfl
 case round =>
  rintro ⟨k,u,o⟩ ⟨h1,h2⟩
  dsimp only [ZK,z0,z1]
  simp only at h1 h2
  have hol:o.length≤1000000:=by
   have h5:=List.length_filter_le p (s.take k)
   rw [List.length_take] at h5
   rw [h2];omega
  ((repeat' (first|(apply WL.opN;exact yF;dsimp only [ZB,z0,z1])|refine WL.nil ?_|refine ZA fun Kx hK=>?_|(refine hK _ _ ?_;clear hK)|(refine Kont.skip ?_;clear hK)|refine WC.region ?_|((first|apply ZAp|apply Z6);(exact eD);exact OpD.t rfl;(exact oD);(intro _;exact hD);(exact (by simp));(exact (by simp));(first|exact ⟨by decide,by decide⟩|skip);decide;(exact lD);(intro _;dsimp only [ZB,z0,z1]);all_goals (try infer_instance))|(apply WL.opN;(focus ((first|(apply ZAq (x:=(⟨s[k],List.getElem_mem _⟩:{v:List Vx // v∈s}));(exact OpD.t rfl);(exact aD))|exact ZBx|exact ZC5|exact ZV|fail);all_goals infer_instance));dsimp only [ZB,z0,z1])|(apply ZC;(exact oD);all_goals (intro h;try exact xD))|(apply WC.cond;(exact oD);all_goals (intro h;try exact xD))|refine WC.skip ?_|refine WC.ret ?_|refine WC.exit ?_|refine WC.block ?_|refine ThenD.n ?_));all_goals (first|((repeat clear hK);(repeat clear Kx))))
  ·(refine ⟨(k+1,_,o++[s[k]]),?_,by first|omega|(simp only;omega),rfl,?_⟩;rotate_left;((try dsimp only [ZK,z0,z1]);repeat (first|exact LeF.nil|refine ZD (k:=?_)));(try dsimp only))
   refine ⟨by omega,?_⟩
   show o++[s[k]]=_
   rw [ZIB (by omega),if_pos h,<- h2]
  ·(refine ⟨(k+1,u,o),?_,by first|omega|(simp only;omega),rfl,?_⟩;rotate_left;((try dsimp only [ZK,z0,z1]);repeat (first|exact LeF.nil|refine ZD (k:=?_)));(try dsimp only))
   refine ⟨by omega,?_⟩
   show o=_
   rw [ZIB (by omega),if_neg (by rw [h];exact Bool.false_ne_true),List.append_nil,<- h2]
  ·rw [List.take_of_length_le (by omega)] at h2
   subst h2
   (refine ⟨trivial,_,rfl,?_⟩;exact fD)
end
section
open Go.RowKit

theorem ZMR (f s:List Vx):Fn Tryz.prog 152 ([dS ZJ f]++[dP 1 false (dS ZJ s)]) (dB (ZBP s f)):=by
 show Fn Tryz.prog 152 [dS ZJ f,dP 1 false (dS ZJ s)] (dB (ZBP s f))
 (refine ZE Tryz.func152 rfl rfl ?_;simp only [Tryz.ntmps152,List.length_cons,List.length_nil,Nat.reduceAdd,Nat.reduceSub,List.replicate_succ,List.replicate_zero,List.cons_append,List.nil_append])
 ((repeat' (first|(apply WL.opN;exact yF;dsimp only [ZB,z0,z1])|refine WL.nil ?_|refine ZA fun Kx hK=>?_|(refine hK _ _ ?_;clear hK)|refine WC.region ?_|(apply WL.opN;(focus ((first|(apply SY.call (ZJv _ _) Tryz.call124;(exact aD))|fail);all_goals infer_instance));dsimp only [ZB,z0,z1])|refine WC.ret ?_));all_goals (first|((repeat clear hK);(repeat clear Kx))))
 all_goals (refine ⟨trivial,_,rfl,?_⟩;exact fD)
abbrev MemS (l:Cx):={v:List Vx // v∈l}
theorem ZO5 (l:Cx) (s:List Vx) (hl:l.length≤1000000):Fn Tryz.prog 129 [dS Cpx l,dS ZJ s] (dS Zv (l.filter (ZBP s))):=by
 (refine ZE Tryz.func129 rfl rfl ?_;simp only [Tryz.ntmps129,List.length_cons,List.length_nil,Nat.reduceAdd,Nat.reduceSub,List.replicate_succ,List.replicate_zero,List.cons_append,List.nil_append])
 ((repeat' (first|(apply WL.opN;exact yF;dsimp only [ZB,z0,z1])|refine WL.nil ?_|refine ZA fun Kx hK=>?_|(refine hK _ _ ?_;clear hK)|refine WC.region ?_|(apply WL.opN;(focus ((first|(apply ZBH (A:=fun v:MemS l=>[dS ZJ v.1]) (r:=fun v=>dB (ZBP s v.1)) Tryz.call152 (fun v=>ZMR v.1 s) (fun _=>ZF0);(exact aD))|(apply SY.call (ZM8 l (ZBP s) hl) Tryz.call151;(exact aD))|exact Z3|exact ZFl|fail);all_goals infer_instance));dsimp only [ZB,z0,z1])|refine WC.ret ?_));all_goals (first|((repeat clear hK);(repeat clear Kx))))
 all_goals (refine ⟨trivial,_,rfl,?_⟩;exact fD)
abbrev ZQQ (at':List Int) (p:Int->Bool):Dat:=ZIs Tryz.prog (fun i:{i:Int // i∈at'}=>[dI i.1]) (fun i=>dB (p i.1))
theorem ZSl (l:List Int) (p:Int->Bool):Fn Tryz.prog 119 [dS ZBD l,ZQQ l p] (dI (ZF9 p 0 l)):=by
 (refine ZE Tryz.func119 rfl rfl ?_;simp only [Tryz.ntmps119,List.length_cons,List.length_nil,Nat.reduceAdd,Nat.reduceSub,List.replicate_succ,List.replicate_zero,List.cons_append,List.nil_append])
 (repeat' (first|(apply WL.opN;exact yF;dsimp only [ZB,z0,z1])|refine WL.nil ?_|refine ZA fun Kx hK=>?_|(refine hK _ _ ?_;clear hK)|refine WC.region ?_|(apply WL.opN;(focus ((first|exact ZBg|fail);all_goals infer_instance));dsimp only [ZB,z0,z1])|refine WC.block ?_))
 (first|refine ZQ (t:=0) rfl ZEX fun hl0=>?_|refine ZQ (t:=0) rfl ZD7 fun hl0=>?_|refine ZQ (t:=0) rfl ZLZ fun hl0=>?_);simp only [maxLen] at hl0
 (refine WC.loopU (X:=Nat) (fun k=>[(8,dI (k:Int)),(4,dA),(5,dA),(9,dA),(10,dA),(11,dA),(12,dA),(13,dA),(14,dA),(15,dA),(16,dA),(17,dA),(18,dA)]) (fun k=>[]) (fun k=>l.length-k) (fun k=>k≤l.length/\ZF9 p 0 l=ZF9 p k (l.drop k)) 0 ?start ?frame0 ?objs0 ?round)
 case start=>exact ⟨Nat.zero_le _,rfl⟩
 case frame0=>((try dsimp only [ZK,z0,z1]);repeat (first|exact LeF.nil|refine ZD (k:=?_)))
 case objs0=>rfl
 case round =>
  rintro k ⟨h1,h2⟩
  dsimp only [ZK,z0,z1]
  ((repeat' (first|(apply WL.opN;exact yF;dsimp only [ZB,z0,z1])|refine WL.nil ?_|refine ZA fun Kx hK=>?_|(refine hK _ _ ?_;clear hK)|(refine Kont.skip ?_;clear hK)|refine WC.region ?_|(apply WL.opN;(focus ((first|(apply ZAq (x:=(⟨l[k],List.getElem_mem _⟩:{i:Int // i∈l}));(exact OpD.t rfl);(exact aD))|exact ZBx|exact ZC5|exact ZV|fail);all_goals infer_instance));dsimp only [ZB,z0,z1])|(apply ZC;(exact oD);all_goals (intro h;try exact xD))|(apply WC.cond;(exact oD);all_goals (intro h;try exact xD))|refine WC.skip ?_|refine WC.ret ?_|refine WC.exit ?_|refine WC.block ?_|refine ThenD.n ?_|refine ThenD.r ?_|refine InBlockD.r ?_));all_goals (first|((repeat clear hK);(repeat clear Kx))))
  ·(refine ⟨trivial,_,rfl,?_⟩;refine FinD.i ?_)
   rw [h2,ZCG (by omega),if_pos h]
  ·(refine ⟨k+1,?_,by first|omega|(simp only;omega),rfl,?_⟩;rotate_left;((try dsimp only [ZK,z0,z1]);repeat (first|exact LeF.nil|refine ZD (k:=?_)));(try dsimp only))
   exact ⟨by omega,by rw [h2,ZCG (by omega),if_neg (by simp [h])]⟩
  ·(refine ⟨trivial,_,rfl,?_⟩;refine FinD.i ?_)
   rw [h2,List.drop_of_length_le (by omega)];rfl
theorem ZQP (l:List Int) (p:Int->Bool):Fn Tryz.prog 74 [dS ZBD l,ZQQ l p] (dB (l.any p)):=by
 (refine ZE Tryz.func74 rfl rfl ?_;simp only [Tryz.ntmps74,List.length_cons,List.length_nil,Nat.reduceAdd,Nat.reduceSub,List.replicate_succ,List.replicate_zero,List.cons_append,List.nil_append])
 ((repeat' (first|(apply WL.opN;exact yF;dsimp only [ZB,z0,z1])|refine WL.nil ?_|refine ZA fun Kx hK=>?_|(refine hK _ _ ?_;clear hK)|refine WC.region ?_|(apply WL.opN;(focus ((first|(apply SY.call (ZSl _ _) Tryz.call119;(exact aD))|exact ZOS|fail);all_goals infer_instance));dsimp only [ZB,z0,z1])|refine WC.ret ?_));all_goals (first|((repeat clear hK);(repeat clear Kx))))
 all_goals ((refine ⟨trivial,_,rfl,?_⟩;refine FinD.b ?_);exact ZEl _ _)
end
section
def Zl:List Vx->List Int->Vx->Int
 | u::vs,a::A,v=>if u=v then a else Zl vs A v
 | _,_,_=>0
theorem ZF7:∀ {vs:List Vx} {A:List Int} {v:Vx},v∉vs->Zl vs A v=0
 | [],_,_,_=>by unfold Zl;rfl
 | _::_,[],_,_=>by unfold Zl;rfl
 | u::vs,a::A,v,h=>by
  unfold Zl
  rw [if_neg fun e=>h (by rw [e];exact List.mem_cons_self ..)]
  exact ZF7 fun q=>h (List.mem_cons_of_mem _ q)
theorem ZIC:∀ {vs:List Vx} {A:List Int} {i:Nat} (_:vs.Nodup) (h:i<vs.length) (h':i<A.length),Zl vs A vs[i]=A[i]
 | u::vs,a::A,0,_,_,_=>by
  show Zl (u::vs) (a::A) u=a
  unfold Zl
  exact if_pos rfl
 | u::vs,a::A,i+1,hn,h,h'=>by
  have hn':=List.nodup_cons.1 hn
  have hi:i<vs.length:=Nat.lt_of_succ_lt_succ h
  show Zl (u::vs) (a::A) vs[i]=A[i]'(Nat.lt_of_succ_lt_succ h')
  unfold Zl
  rw [if_neg fun e=>hn'.1 (by rw [e];exact List.getElem_mem _)]
  exact ZIC hn'.2 hi (Nat.lt_of_succ_lt_succ h')
theorem ZLM {vs:List Vx} {v:Vx} {i:Nat} (ha:Asc vs) (h1:∀ k (h:k<vs.length),k<i->ZAK vs[k] v<0) (h2:∀ k (h:k<vs.length),i≤k->¬ ZAK vs[k] v<0) (hv:v∈vs):∃ h:i<vs.length,vs[i]=v:=by
 obtain ⟨k,hk,rfl⟩:=List.getElem_of_mem hv
 have h0:¬ ZAK vs[k] vs[k]<0:=by
  unfold ZAK
  rw [if_neg (by omega),if_neg (by omega),if_neg (by omega),if_neg (by omega)]
  decide
 have hik:i≤k:=Nat.le_of_not_lt fun q=>h0 (h1 k hk q)
 have hi:i<vs.length:=by omega
 refine ⟨hi,?_⟩
 rcases Nat.lt_or_ge i k with q|q
 ·exact absurd (List.pairwise_iff_getElem.1 ha i k hi hk q) (h2 i hi (Nat.le_refl _))
 ·obtain rfl:i=k:=by omega
  rfl
end
section
theorem ZMg {v:Vx}:Z5 [v]=0↔ZDI v=true:=by
 rw [Zf]
 constructor
 ·exact fun h=>h.2.2.1 v (List.mem_singleton_self v)
 ·intro h
  refine ⟨by simp,by simp,fun u hu=>?_,by simp [Asc]⟩
  rw [List.mem_singleton.1 hu]
  exact h
end
end Go.Proofs.YtofkoleingbbpaaGreatDoor
namespace Go.Proofs.YtofkoleingbbpaaGreatDoor.M
section
open Go.RowKit
section
variable {P:Program} {ops:Array Oper} {hp:List HObj} {o:Oper} {fr:List Dat} {d:Dat} {Q:Zu} {rest:List Oper}
variable {dst:Option Tmp} {ty:TypeId} {ps:String} {af:Array Edge} {g:Option (Nat × Bool)}
theorem WL.alloc {T:TypeId} {n:Nat} {agg:Bool} {z:Value} (hz:TyZ P T z) (hs:(dX z).Shape n agg)
  (h:∀ b,WL P ops Q rest (ZB fr dst (dX (.pointer (some ⟨b,0,none⟩)))) (Zb b T n agg (dX z)::hp)):WL P ops Q (⟨dst,.alloc T,ty,ps,af,none⟩::rest) fr hp:=by
 refine WL.of fun P0 B w0 w a hh hf=>?_
 obtain ⟨cs,k1,k0,k2,k3,k4⟩:=hs (fun _=>True) w z rfl
 have hrun:(execOp a.eval ⟨dst,.alloc T,ty,ps,af,none⟩).run P w = .ok (.value (.pointer (some ⟨w.heap.size,0,none⟩))) (w.alloc (.cells cs.toArray T)):=by
  cases hq:P.info? T with
  | none=>have:=hz.out;simp [hq] at this
  | some i =>
   have hz':i.zero=some z:=by have:=hz.out;simpa [hq] using this
   unfold execOp
   simp [Instr.alloc,zeroValue,typeInfo,hq,hz',newVar,newRow,k3]
 refine Zd rfl hrun ?_
 have hx:=Ext.of_alloc w (.cells cs.toArray T)
 have hb:∀ k,(Zb w.heap.size T n agg (dX z)).blk=some k->w.heap.size≤k/\k<(w.alloc (.cells cs.toArray T)).heap.size:=fun k hk=>by
  cases hk
  exact ⟨Nat.le_refl _,by simp⟩
 refine (h w.heap.size).on ⟨hh.h.push hx.b hb ⟨cs,z,Zr w _,k1,k0,k2,k4,rfl⟩,hh.d⟩ ?_
 exact Fr.put (hf.mono fun d _ hd=>Zz hx.b (fun k hk=>(hb k hk).1) hd) rfl

theorem ZCC {x:Operand} {t b n:Nat} {T T2:TypeId} {agg:Bool} {d0:Dat} (hT:TyI P T n agg) (hp0:OpD fr (.tmp t) (dX (.pointer (some ⟨b,0,none⟩)))) (hx:OpD fr x d) (hs:d.Shape n agg)
  (h:WL P ops Q rest (ZB fr dst (dX undef)) (Zb b T2 n agg d::hp)):WL P ops Q (⟨dst,.store T (.tmp t) x,ty,ps,af,none⟩::rest) fr (Zb b T2 n agg d0::hp):=by
 refine WL.of fun P0 B w0 w a hh hf=>?_
 obtain ⟨cs,u,c1,c2,c0,c3,c4,c5⟩:=hh.h.ok (Zb b T2 n agg d0) (by simp)
 have h1:=hx.ev hf
 obtain ⟨cs',k1,k0,k2,k3,k4⟩:=hs _ _ _ h1
 have h2:a.eval (.tmp t) = .pointer (some ⟨b,0,none⟩):=hp0.ev hf
 have hr:=ZCP (u:=a.eval x) hT.size c1 c2 k1 k2 k3
 have hrun:(execOp a.eval ⟨dst,.store T (.tmp t) x,ty,ps,af,none⟩).run P w = .ok .skip (w.setRow b cs'.toArray):=by
  unfold execOp
  simp only [h2,Sem.run_bind,hr,Result.andThen_ok,Sem.run_pure]
 refine wpList_plain rfl fun K hK=>?_
 unfold Oper.wp
 rw [hrun]
 have hgr:w.grownBy (w.setRow b cs'.toArray) (Zb b T2 n agg d0).blk:=Z9
 have hok:(Zb b T2 n agg d).ok (fun k=>Imm P0 B (Zb b T2 n agg d0::hp) k/\k<w.heap.size) (w.setRow b cs'.toArray) :=
  ⟨cs',a.eval x,setRow_heap w b _ _ _ _ c1,k1,k0,k2,k4,d.grown (d.bound h1) hgr (fun k hk hc=>hc.1.2 _ (by simp) hk)⟩
 exact hK _ _ (h.on ⟨hh.h.write hgr (.inl rfl) hok,hh.d⟩ (Fr.put (hf.mono fun _ _ hd=>ZT (o':=Zb b T2 n agg d) hgr (.inl rfl) hd) (d:=dX undef) rfl))
theorem ZE2 {t b n:Nat} {T:TypeId} {agg:Bool} (hp0:fr[t]?=some (dX (.pointer (some ⟨b,0,none⟩)))) (h:WL P ops Q rest (fr.set t (dP n agg d)) hp):WL P ops Q rest fr (Zb b T n agg d::hp):=by
 refine WL.of fun P0 B w0 w a hh hf=>?_
 obtain ⟨cs,u,c1,c2,c0,c3,c4,c5⟩:=hh.h.ok (Zb b T n agg d) (by simp)
 have hown:=hh.h.own (Zb b T n agg d) (by simp) b rfl
 refine h.on ⟨hh.h.drop,hh.d⟩ ⟨hf.defers,by rw [hf.size,List.length_set],fun t' d' hd'=>?_⟩
 by_cases htt:t=t'
 ·subst htt
  rw [List.getElem?_set] at hd'
  simp only [if_true] at hd'
  split at hd'
  ·cases hd'
   have hv:a.tmps.getD t undef = .pointer (some ⟨b,0,none⟩):=hf.rd t _ hp0
   rw [hv]
   refine ⟨b,0,u,rfl,ZAd c1 c2 c0 c3 c4 ⟨.inr hown.1,fun o' ho' hk=>?_⟩,d.weak c5 Imm.sub⟩
   exact (List.pairwise_cons.1 hh.h.apart).1 o' ho' b rfl hk
  ·cases hd'
 ·rw [List.getElem?_set_ne htt] at hd'
  exact d'.weak (hf.rd t' d' hd') Imm.sub
theorem ZR {x:Operand} {t b n:Nat} {T T2:TypeId} {agg:Bool} {d0:Dat} (hT:TyI P T n agg) (hp0:fr[t]?=some (dX (.pointer (some ⟨b,0,none⟩)))) (hx:OpD fr x d) (hs:d.Shape n agg)
  (h:WL P ops Q rest (fr.set t (dP n agg d)) hp):WL P ops Q (⟨none,.store T (.tmp t) x,ty,ps,af,none⟩::rest) fr (Zb b T2 n agg d0::hp) :=
 ZCC hT (OpD.t hp0) hx hs (ZE2 hp0 h)
end
end
section
open Go.RowKit

set_option maxHeartbeats 4000000 in
theorem ZMi (a b:List Vx):Fn Tryz.prog 122 [dS ZJ a,dS ZJ b,ZIs Tryz.prog (fun x:Vx × Vx=>[dS RV x.1,dS RV x.2]) (fun x=>dI (ZAK x.1 x.2))] (dI (ZAX a b)):=by
 (refine ZE Tryz.func122 rfl rfl ?_;simp only [Tryz.ntmps122,List.length_cons,List.length_nil,Nat.reduceAdd,Nat.reduceSub,List.replicate_succ,List.replicate_zero,List.cons_append,List.nil_append])
 (repeat' (first|(apply ZF;(focus (apply SYG.yes;(exact ZU rfl);(first|(apply SY.move <;> (exact oD))|(apply SY.assign <;> (exact oD))|(apply SY.load;(exact tD);(exact OpD.t rfl)))));dsimp only [ZB,z0,z1])|refine WL.nil ?_|refine ZA fun Kx hK=>?_|(refine hK _ _ ?_;clear hK)|refine WC.region ?_|(apply ZF;(focus (apply SYG.yes;(exact ZU rfl);((first|(apply SY.len;(exact oD);(exact nD);(exact uD))|fail);all_goals infer_instance)));dsimp only [ZB,z0,z1])|refine WC.block ?_))
 (first|refine ZQ (t:=0) rfl ZEX fun hl0=>?_|refine ZQ (t:=0) rfl ZD7 fun hl0=>?_);simp only [maxLen] at hl0
 (first|refine ZQ (t:=1) rfl ZEX fun hl1=>?_|refine ZQ (t:=1) rfl ZD7 fun hl1=>?_);simp only [maxLen] at hl1
 (refine WC.loopU (X:=Nat) (fun k=>[(13,dI (k:Int)),(6,dA),(7,dA),(8,dA),(9,dA),(10,dA),(14,dA),(15,dA),(16,dA),(17,dA),(18,dA),(19,dA),(20,dA),(21,dA),(22,dA),(23,dA),(24,dA),(25,dA),(26,dA),(27,dA),(28,dA),(29,dA),(30,dA),(31,dA),(32,dA),(33,dA)]) (fun k=>[]) (fun k=>a.length-k) (fun k=>k≤a.length/\k≤b.length/\ZAX a b=ZAX (a.drop k) (b.drop k)) 0 ?start ?frame0 ?objs0 ?round)
 case start=>exact ⟨Nat.zero_le _,Nat.zero_le _,rfl⟩
 case frame0=>((try dsimp only [ZK,z0,z1]);repeat (first|exact LeF.nil|refine ZD (k:=?_)))
 case objs0=>rfl
 case round =>
  rintro k ⟨h1,h2,h3⟩
  dsimp only [ZK,z0,z1]
  ((repeat' (first|(apply ZF;(focus (apply SYG.yes;(exact ZU rfl);(first|(apply SY.move <;> (exact oD))|(apply SY.assign <;> (exact oD))|(apply SY.load;(exact tD);(exact OpD.t rfl)))));dsimp only [ZB,z0,z1])|refine WL.nil ?_|refine ZA fun Kx hK=>?_|(refine hK _ _ ?_;clear hK)|(refine Kont.skip ?_;clear hK)|refine WC.region ?_|(apply WL.alloc;(exact tzV);(first|exact Zs rfl|exact ZAJ);(intro _;dsimp only [ZB,z0,z1]))|(apply ZR;(exact tD);rfl;(exact oD);(exact hD);dsimp only [ZB,z0,z1])|(apply ZF;(focus (apply SYG.yes;(exact ZU rfl);((first|(apply ZAq (x:=((a[k],b[k]):Vx × Vx));(exact OpD.t rfl);(exact aD))|((first|apply SY.move|apply SY.assign|apply SY.lss|apply SY.geq|apply SY.neq) <;> (exact oD))|((first|apply SY.add) <;> first|exact oD|omega)|(apply SY.len;(exact oD);(exact nD);(exact uD))|(apply Zo;(exact eD);(exact oD);(exact oD);exact kD)|fail);all_goals infer_instance)));dsimp only [ZB,z0,z1])|(apply ZC;(exact oD);(all_goals intro h);(all_goals try (exfalso;first|omega|contradiction)))|(apply ZG;(exact oD);(all_goals intro h);(all_goals try (exfalso;first|omega|contradiction)))|refine WC.skip ?_|refine WC.ret ?_|refine WC.exit ?_|refine WC.block ?_|refine ThenD.n ?_|refine ThenD.r ?_|refine InBlockD.r ?_));all_goals (first|((repeat clear hK);(repeat clear Kx))))
  all_goals first
   | ((refine ⟨k+1,?_,by first|omega|(simp only;omega),rfl,?_⟩;rotate_left;((try dsimp only [ZK,z0,z1]);repeat (first|exact LeF.nil|refine ZD (k:=?_)));(try dsimp only));exact ⟨by omega,by omega,h3.trans (ZFA (by omega) (by omega) (by assumption))⟩)
   | ((refine ⟨trivial,_,rfl,?_⟩;refine FinD.i ?_);rw [h3,ZDd];repeat' split) <;> first|rfl|contradiction|omega
theorem ZF5 (a b:List Vx):Fn Tryz.prog 80 [dS ZJ a,dS ZJ b] (dI (ZAX a b)):=by
 (refine ZE Tryz.func80 rfl rfl ?_;simp only [Tryz.ntmps80,List.length_cons,List.length_nil,Nat.reduceAdd,Nat.reduceSub,List.replicate_succ,List.replicate_zero,List.cons_append,List.nil_append])
 ((repeat' (first|(apply ZF;(focus (apply SYG.yes;(exact ZU rfl);(first|(apply SY.move <;> (exact oD))|(apply SY.assign <;> (exact oD)))));dsimp only [ZB,z0,z1])|refine WL.nil ?_|refine ZA fun Kx hK=>?_|(refine hK _ _ ?_;clear hK)|refine WC.region ?_|(apply ZF;(focus (apply SYG.yes;(exact ZU rfl);((first|(apply SY.call (ZMi _ _) Tryz.call122;(exact aD))|fail);all_goals infer_instance)));dsimp only [ZB,z0,z1])|refine WC.ret ?_));all_goals (first|((repeat clear hK);(repeat clear Kx))))
 all_goals ((refine ⟨trivial,_,rfl,?_⟩;refine FinD.i ?_);try rfl)
theorem ZSV {I:Nat->Prop} {w:World} {u v:Value} {a b:List Vx} (hu:ZJ I w u a) (hv:ZJ I w v b):Calls Tryz.prog 80 #[u,v] w fun e w'=>e = .returned (.int .i64 (ZAX a b))/\∃ q os',w'=Go.Sort.grow (w.drewN q) os':=by
 have:=(ZF5 a b).out I w [u,v] rfl (fun i d hd=>by
  match i with
  | 0=>cases hd;exact hu
  | 1=>cases hd;exact hv
  | i+2=>simp at hd)
 exact this.mono fun e w' ⟨v,h1,h2,h3⟩=>⟨by rw [h1];exact congrArg _ h3,h2.grow⟩
end
section
open Go.RowKit

section
variable {P:Program} {ops:Array Oper} {hp:List HObj} {fr:List Dat} {dst:Option Tmp} {ty:TypeId} {ps:String} {af:Array Edge} {g:Option (Nat × Bool)} {t e:TypeId} {n bytes:Nat} {z:Value} {ag:Bool}
theorem SY.buildE (E:ElT P t e n z bytes ag) {α:Type} {R:Rel α} {_gR:Good R} {len:Nat} {parts:Array (Nat × Operand)} {els:List α} (hx:ElsD fr R (parts.toList.map Prod.snd) els) (hparts:parts.toList=((parts.toList.map Prod.snd).zipIdx).map (fun p=>(p.2,p.1))) (hl:len=els.length) (hn:0<n) (hs:∀ a,(dS R a).Shape n true) (hsm:els.length*n≤16777216) :
  SY P ops hp ⟨dst,.buildSlice t len parts,ty,ps,af,g⟩ fr (dS (ArrK n R) els):=SY.buildK E hx hparts hl hn hs hsm
end
theorem ZJr (x y:Vx):ZAX [x] [y]=ZAK x y:=by
 unfold ZAX
 by_cases h:ZAK x y=0
 ·rw [if_pos h,h];rfl
 ·rw [if_neg h]
theorem vtx_p (x y:Vx):Fn Tryz.prog 149 [dS RV x,dS RV y] (dI (ZAK x y)):=by
 (refine ZE Tryz.func149 rfl rfl ?_;simp only [Tryz.ntmps149,List.length_cons,List.length_nil,Nat.reduceAdd,Nat.reduceSub,List.replicate_succ,List.replicate_zero,List.cons_append,List.nil_append])
 ((repeat' (first|(apply ZF;(focus (apply SYG.yes;(exact ZU rfl);(first|(apply SY.assign <;> (exact oD))|(apply SY.load;(exact tD);(exact OpD.t rfl)))));dsimp only [ZB,z0,z1])|refine WL.nil ?_|refine ZA fun Kx hK=>?_|(refine hK _ _ ?_;clear hK)|refine WC.region ?_|(apply ZF;(focus (apply SYG.yes;(exact ZU rfl);((first|(apply SY.call (ZF5 [x] [y]) Tryz.call80;(exact aD))|(apply SY.buildE;(exact eD);((try simp only [List.map_cons,List.map_nil]);(repeat (first|exact Zj|(apply Zi;(first|exact OpD.t rfl|exact OpD.i|exact OpD.b|exact OpD.tle rfl (by first|exact ZI|exact ZH (by decide))|exact ⟨ZI⟩|exact ⟨ZH (by decide)⟩)))));rfl;rfl;decide;(intro _;exact ZAe);(exact (by simp)))|(apply SY.box;(exact oD);(exact hD))|fail);all_goals infer_instance)));dsimp only [ZB,z0,z1])|refine WC.ret ?_));all_goals (first|((repeat clear hK);(repeat clear Kx))))
 all_goals (rw [ZJr];(refine ⟨trivial,_,rfl,?_⟩;refine FinD.i ?_);try rfl)
theorem vtx_x (x y:Vx) (w:World):Calls Tryz.prog 149 #[.agg #[.int .i64 x.1,.int .i64 x.2],.agg #[.int .i64 y.1,.int .i64 y.2]] w fun e w'=>e = .returned (.int .i64 (ZAK x y))/\∃ q os',w'=Go.Sort.grow (w.drewN q) os':=by
 have:=(vtx_p x y).out (fun _=>True) w [.agg #[.int .i64 x.1,.int .i64 x.2],.agg #[.int .i64 y.1,.int .i64 y.2]] rfl (fun i d hd=>by
  match i with
  | 0=>cases hd;rfl
  | 1=>cases hd;rfl
  | i+2=>simp at hd)
 exact this.mono fun e w' ⟨v,h1,h2,h3⟩=>⟨by rw [h1];exact congrArg _ h3,h2.grow⟩
end
end Go.Proofs.YtofkoleingbbpaaGreatDoor.M
namespace Go.Proofs.YtofkoleingbbpaaGreatDoor
section
theorem ZDe {a b c:List Vx} (h:ZAX a b<0) (k:ZAX b c<0):ZAX a c<0:=by
 obtain ⟨h1,h2⟩:=ZDA a b c (by omega) (by omega)
 rcases Int.lt_or_eq_of_le h1 with h3|h3
 ·exact h3
 ·have:=h2 h3;omega
theorem ZEj (a:List Vx):ZAX a a=0:=ZCr.2 rfl
theorem ZF4 (a b:List Vx):ZAX a b<0\/ZAX b a<0\/a=b:=by
 have h:=ZC9 a b
 by_cases h1:ZAX a b<0
 ·exact .inl h1
 by_cases h2:ZAX b a<0
 ·exact .inr (.inl h2)
 ·exact .inr (.inr (ZCr.1 (by omega)))
def SortL (xs:Cx):Prop:=xs.Pairwise fun a b=>¬ ZAX b a<0
def AscL (xs:Cx):Prop:=xs.Pairwise fun a b=>ZAX a b<0
theorem ZJk:∀ {a b:Cx},AscL a->AscL b->(∀ x,x∈a↔x∈b)->a=b
 | [],[],_,_,_=>rfl
 | [],y::b,_,_,h=>absurd ((h y).2 (by simp)) (by simp)
 | x::a,[],_,_,h=>absurd ((h x).1 (by simp)) (by simp)
 | x::a,y::b,ha,hb,h=>by
  unfold AscL at ha hb
  rw [List.pairwise_cons] at ha hb
  have hxy:x=y:=by
   have h1:=(h x).1 (by simp)
   have h2:=(h y).2 (by simp)
   rw [List.mem_cons] at h1 h2
   rcases h1 with h1|h1
   ·exact h1
   rcases h2 with h2|h2
   ·exact h2.symm
   have h3:=hb.1 x h1
   have h4:=ha.1 y h2
   have:=ZC9 x y
   omega
  subst hxy
  rw [ZJk ha.2 hb.2 fun z=>?_]
  have h1:=h z
  rw [List.mem_cons,List.mem_cons] at h1
  constructor
  ·intro hz
   rcases h1.1 (.inr hz) with rfl|h2
   ·have:=ha.1 z hz;have:=ZEj z;omega
   ·exact h2
  ·intro hz
   rcases h1.2 (.inr hz) with rfl|h2
   ·have:=hb.1 z hz;have:=ZEj z;omega
   ·exact h2
theorem AscL.nodup {a:Cx} (h:AscL a):a.Nodup:=List.Pairwise.imp (fun {x y} hxy hc=>by
 subst hc;have:=ZEj x;omega) h
theorem ZGx:∀ {l:Cx} {s x:List Vx},x∈ZON l s↔x=s\/x∈l
 | [],s,x=>by simp [ZON]
 | y::l,s,x=>by
  unfold ZON
  split
  ·simp
  ·rw [List.mem_cons,ZGx,List.mem_cons]
   constructor
   ·rintro (h|h|h) <;> simp [h]
   ·rintro (h|h|h) <;> simp [h]
theorem ZPq {l:Cx} {s x:List Vx}:x∈ZHX l s↔x=s\/x∈l:=by
 unfold ZHX
 split
 ·rename_i h
  exact ⟨.inr,fun h'=>h'.elim (fun e=>e ▸ h) id⟩
 ·exact ZGx
theorem ZJ5:∀ {l:Cx} {s:List Vx},AscL l->s∉l->AscL (ZON l s)
 | [],s,_,_=>by simp [ZON,AscL]
 | y::l,s,h,hs=>by
  have h':=h
  unfold AscL at h'
  rw [List.pairwise_cons] at h'
  unfold ZON
  split
  ·rename_i hlt
   unfold AscL
   rw [List.pairwise_cons]
   refine ⟨fun a ha=>?_,h⟩
   rcases List.mem_cons.1 ha with rfl|ha
   ·exact hlt
   ·exact ZDe hlt (h'.1 a ha)
  ·rename_i hlt
   unfold AscL
   rw [List.pairwise_cons]
   refine ⟨fun a ha=>?_,ZJ5 h'.2 fun hc=>hs (by simp [hc])⟩
   rcases ZGx.1 ha with rfl|ha
   ·rcases ZF4 a y with k|k|k
    ·exact absurd k hlt
    ·exact k
    ·exact absurd (by rw [k];simp) hs
   ·exact h'.1 a ha
theorem ZPo {l:Cx} {s:List Vx} (h:AscL l):AscL (ZHX l s):=by
 unfold ZHX
 split
 ·exact h
 ·rename_i hs;exact ZJ5 h hs
theorem ZFG:∀ {l out:Cx},AscL out->AscL (l.foldl ZHX out)
 | [],_,h=>h
 | s::l,out,h=>ZFG (l:=l) (ZPo h)
theorem ZFI:∀ {l out:Cx} {x:List Vx},x∈l.foldl ZHX out↔x∈l\/x∈out
 | [],out,x=>by simp
 | s::l,out,x=>by
  rw [List.foldl_cons,ZFI (l:=l),ZPq,List.mem_cons]
  constructor
  ·rintro (h|h|h) <;> simp [h]
  ·rintro ((h|h)|h) <;> simp [h]
theorem ZER {l:Cx} {s:List Vx}:ZDB l s=true↔∃ x∈l,s.length<x.length/\ZAu s x=true:=by
 unfold ZDB
 simp
end
section
open Go.RowKit

def ZPE (l:Cx) (s:List Vx) (i:Int):Bool:=decide (s.length<(l.getD i.toNat []).length) && ZBP s (l.getD i.toNat [])
theorem ZSX (l:Cx) (s:List Vx) (i:Int) (h0:0≤i) (h1:i<l.length):Fn Tryz.prog 123 ([dI i]++[dP 1 false (dS Zv l),dP 1 false (dS ZJ s)]) (dB (ZPE l s i)):=by
 obtain ⟨k,rfl⟩:∃ k:Nat,i=k:=⟨i.toNat,by omega⟩
 have hk:k<l.length:=by omega
 have e:ZPE l s (k:Int)=(decide (s.length<l[k].length) && ZBP s l[k]):=by
  unfold ZPE
  rw [Int.toNat_natCast,show l.getD k []=l[k] by simp [List.getD,hk]]
 rw [e]
 show Fn Tryz.prog 123 [dI (k:Int),dP 1 false (dS Zv l),dP 1 false (dS ZJ s)] _
 (refine ZE Tryz.func123 rfl rfl ?_;simp only [Tryz.ntmps123,List.length_cons,List.length_nil,Nat.reduceAdd,Nat.reduceSub,List.replicate_succ,List.replicate_zero,List.cons_append,List.nil_append])
 ((repeat' (first|((first|apply WL.opN|apply WD.opN);exact yF;dsimp only [ZB,z0,z1])|refine WL.nil ?_|refine WD.nil ?_|refine ZA fun Kx hK=>?_|(refine hK _ _ ?_;clear hK)|refine WC.region ?_|(apply WC.draw;kernel_rfl;kernel_rfl)|((first|apply ZF|apply WD.op);(focus (first|exact wN|(apply SYG.yes;(exact wY);((first|(apply SY.call (ZJv _ _) Tryz.call124;(exact aD))|exact ZDv|exact ZGN|exact ZEg|exact ZBg|exact ZV|exact ZDY|fail);all_goals infer_instance))));dsimp only [ZB,z0,z1])|((first|refine ZN rfl rfl rfl (fun h=>?_) (fun h=>?_)|refine ZM rfl rfl rfl (fun h=>?_) (fun h=>?_)|refine ZL rfl rfl rfl (fun h=>?_) (fun h=>?_)|refine Za rfl rfl rfl (fun h=>?_) (fun h=>?_)|refine ZZ rfl rfl rfl (fun h=>?_) (fun h=>?_)|refine ZW rfl rfl rfl (fun h=>?_) (fun h=>?_)) <;> (first|(exfalso;first|omega|contradiction)|(dsimp only [z0,z1])))|refine WC.ret ?_));all_goals (first|((repeat clear hK);(repeat clear Kx))))
 ·rw [decide_eq_true (show s.length<l[k].length by omega),Bool.true_and]
  (refine ⟨trivial,_,rfl,?_⟩;exact fD)
 ·rw [decide_eq_false (show ¬ s.length<l[k].length by omega),Bool.false_and]
  (refine ⟨trivial,_,rfl,?_⟩;exact fD)
abbrev MemI (l:List Int):={v:Int // v∈l}
theorem ZKu (l:Cx) (at':List Int) (s:List Vx) (hat:∀ i∈at',0≤i/\i<l.length):Fn Tryz.prog 82 [dS Zv l,dS ZBD at',dS ZJ s] (dB (at'.any (ZPE l s))):=by
 (refine ZE Tryz.func82 rfl rfl ?_;simp only [Tryz.ntmps82,List.length_cons,List.length_nil,Nat.reduceAdd,Nat.reduceSub,List.replicate_succ,List.replicate_zero,List.cons_append,List.nil_append])
 ((repeat' (first|(apply WL.opN;exact yF;dsimp only [ZB,z0,z1])|refine WL.nil ?_|refine ZA fun Kx hK=>?_|(refine hK _ _ ?_;clear hK)|refine WC.region ?_|(apply WL.opN;(focus ((first|(apply ZBH (A:=fun v:MemI at'=>[dI v.1]) (r:=fun v=>dB (ZPE l s v.1)) Tryz.call123 (fun v=>ZSX l s v.1 (hat v.1 v.2).1 (hat v.1 v.2).2) (fun _=>ZF0);(exact aD))|(apply SY.call (ZQP at' (ZPE l s)) Tryz.call74;(exact aD))|exact ZFl|fail);all_goals infer_instance));dsimp only [ZB,z0,z1])|refine WC.ret ?_));all_goals (first|((repeat clear hK);(repeat clear Kx))))
 all_goals (refine ⟨trivial,_,rfl,?_⟩;exact fD)
end
end Go.Proofs.YtofkoleingbbpaaGreatDoor
