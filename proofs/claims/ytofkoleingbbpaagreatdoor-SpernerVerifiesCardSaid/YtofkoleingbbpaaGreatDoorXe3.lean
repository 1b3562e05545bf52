/- Part 3: walks by contracts, and plain laws. -/
import Derived.Test.YtofkoleingbbpaaGreatDoorXa29
import Derived.Test.YtofkoleingbbpaaGreatDoorXe2
set_option linter.unusedVariables false
set_option linter.unusedSimpArgs false
set_option linter.unusedSectionVars false
set_option maxRecDepth 100000
set_option maxHeartbeats 64000000
namespace Go.Proofs.YtofkoleingbbpaaGreatDoor
section
open Go.RowKit

theorem ZP5 (u:Value) (l:Cx) (s:List Vx) (hl:l.length≤3000000):CallC Tryz.prog 137 [dX u,dS ZM s] [Zk u 22 ZM l] (fun d hp2=>∃v,d=dX v/\hp2=[Zk v 22 ZM (ZCb l s)]):=by
 refine ZEb (K:=fun d hp2=>∃v w ys,d=dX v/\hp2.Perm ([Zk w 22 ZM ys]++[Zk v 22 ZM (ZCb l s)])) ?_ (fun d hp2 ⟨v,w,ys,h1,h2⟩=>⟨_,_,h2,v,h1,rfl⟩);(refine ZAh Tryz.func137 rfl rfl (fun hp=>?_);simp only[Tryz.ntmps137,List.length_cons,List.length_nil,List.length_append,List.length_map,Nat.reduceAdd,Nat.reduceSub,List.replicate_succ,List.replicate_zero,List.cons_append,List.nil_append,List.map_cons,List.map_nil,List.append_assoc])
 (repeat' (first|(apply WL.opN;exact yF;dsimp only[ZC,z0,z1])|refine WL.nil ?_|refine ZA fun Kx hK=>?_|(refine hK _ _ ?_;clear hK)|refine WC.region ?_|refine WC.block ?_))
 refine Zq 22 ZM ?_;(refine WC.loopU (X:=Nat × Bool × Value × Cx) (fun x=>[(7,dI (x.1:Int)),(6,dB x.2.1),(5,dX x.2.2.1),(4,dA),(8,dA),(9,dA),(10,dA),(11,dA),(12,dA),(13,dA),(14,dA),(15,dA),(16,dA),(17,dA),(18,dA),(19,dA),(20,dA),(21,dA),(22,dA),(23,dA),(24,dA),(25,dA),(26,dA),(27,dA),(28,dA),(29,dA),(30,dA),(31,dA),(32,dA),(33,dA),(34,dA),(35,dA),(36,dA),(37,dA),(38,dA),(39,dA),(40,dA)]) (fun x=>Zk x.2.2.1 22 ZM x.2.2.2::Zk u 22 ZM l::hp) (fun x=>l.length-x.1) (fun x=>x.1≤l.length/\(∀y∈l.take x.1,ZAb s y≠0)/\(x.2.1=false->x.2.2.2=l.take x.1/\∀y∈l.take x.1,¬ ZAb s y<0)/\(x.2.1=true->x.2.2.2++l.drop x.1=ZFK l s)) (0,false,.slice none 0 0,[]) ?start ?frame0 ?objs0 ?round)
 case start=>exact⟨Nat.zero_le _,by simp,by simp,by simp⟩
 case frame0=>exact zFr
 case objs0=>rfl
 case round =>
  rintro⟨k,b,v,o⟩ ⟨h1,h2,h3,h4⟩;simp only at h1 h2 h3 h4;have hol:o.length≤l.length+1:=by
   cases b with
   | false=>rw[(h3 rfl).1,List.length_take];omega
   | true =>
    have:=congrArg List.length (h4 rfl);rw[List.length_append,ZGO] at this;omega
  dsimp only[ZL,z0,z1];((repeat' (first|(apply WL.opN;exact yF;dsimp only[ZC,z0,z1])|refine WL.nil ?_|refine ZA fun Kx hK=>?_|(refine hK _ _ ?_;clear hK)|(refine Kont.skip ?_;clear hK)|refine WC.region ?_|((first|apply Zs|apply Zl);(exact eD);exact OpD.t rfl;(exact oD);(intro _;exact hD);(exact(by simp));(exact(by simp));(first|exact⟨by decide,by decide⟩|skip);decide;(exact lD);(intro _;dsimp only[ZC,z0,z1]);all_goals (try infer_instance))|(apply ZF;(focus (first|exact wN|(apply SYG.yes;(exact wY);((first|(apply SY.call (ZHv _ _) Tryz.call77;(exact aD))|(apply ZEW;exact ZB9;exact OpD.t rfl;exact .tail _ (.head _);exact OpD.t rfl;rfl;omega)|(apply ZGD;exact ZSX;exact OpD.t rfl;exact .tail _ (.head _);omega)|exact ZCX|exact ZBF|exact ZHe|exact ZLC|exact ZBg|exact ZA3|exact ZCV|fail);all_goals infer_instance))));dsimp only[ZC,z0,z1])|((first|refine ZK rfl rfl rfl (fun h=>?_) (fun h=>?_)|refine ZJ rfl rfl rfl (fun h=>?_) (fun h=>?_)|refine ZI rfl rfl rfl (fun h=>?_) (fun h=>?_)) <;> (first|(exfalso;first|omega|contradiction)|(dsimp only[z0,z1])))|(apply ZQ;(exact oD);(with_reducible rfl))|(apply ZB;(exact oD);all_goals (intro h;try exact xD))|(apply ZO;(exact oD);all_goals (intro h;try exact xD))|refine WC.skip ?_|refine WC.ret ?_|refine WC.exit ?_|refine WC.block ?_|refine ThenD.n ?_|refine ThenD.r ?_|refine InBlockD.r ?_));all_goals (first|((repeat clear hK);(repeat clear Kx))))
  ·have hs:s=l[k]:=ZBM.1 h;have e:ZCb l s=l:=if_pos (hs ▸ List.getElem_mem (show k<l.length by omega));exact⟨trivial,_,[_,_],rfl,rfl,u,v,o,rfl,by rw[e]⟩
  ·have hb:b=false:=by cases b <;> simp_all
   subst hb;have h0:=h3 rfl;(refine zNx (k+1,true,_,o++[s]++[l[k]]) ?_;(try dsimp only))
   refine⟨by omega,fun y hy=>?_,(fun e=>nomatch e),fun _=>?_⟩
   ·rcases(Zv (by omega)).1 hy with h'|rfl
    ·exact h2 y h'
    ·assumption
   ·show o++[s]++[l[k]]++l.drop (k+1)=ZFK l s;rw[ZIm (by omega) h0.2 (by assumption),h0.1,Zy (show k<l.length by omega)];simp
  ·have hb:b=false:=by cases b <;> simp_all
   subst hb;have h0:=h3 rfl;(refine zNx (k+1,false,_,o++[l[k]]) ?_;(try dsimp only))
   refine⟨by omega,fun y hy=>?_,fun _=>⟨?_,fun y hy=>?_⟩,(fun e=>nomatch e)⟩
   ·rcases(Zv (by omega)).1 hy with h'|rfl
    ·exact h2 y h'
    ·assumption
   ·rw[h0.1,Zf (by omega)]
   ·rcases(Zv (by omega)).1 hy with h'|rfl
    ·exact h0.2 y h'
    ·assumption
  ·have hb:b=true:=by cases b <;> simp_all
   subst hb;have h0:=h4 rfl;(refine zNx (k+1,true,_,o++[l[k]]) ?_;(try dsimp only))
   refine⟨by omega,fun y hy=>?_,(fun e=>nomatch e),fun _=>?_⟩
   ·rcases(Zv (by omega)).1 hy with h'|rfl
    ·exact h2 y h'
    ·assumption
   ·show o++[l[k]]++l.drop (k+1)=ZFK l s;rw[<- h0,Zy (show k<l.length by omega)];simp
  ·subst h;have h0:=h3 rfl;rw[List.take_of_length_le (by omega)] at h0 h2;have hs:s∉l:=fun hs=>h2 s hs (ZBM.2 rfl);have e:ZCb l s=o++[s]:=by unfold ZCb;rw[if_neg hs,ZIn h0.2,h0.1]
   exact⟨trivial,_,[_,_],rfl,rfl,_,_,_,rfl,by rw[e];exact List.Perm.swap _ _ _⟩
  ·subst h;have h0:=h4 rfl;rw[List.take_of_length_le (by omega)] at h2;rw[List.drop_eq_nil_of_le (by omega),List.append_nil] at h0;have hs:s∉l:=fun hs=>h2 s hs (ZBM.2 rfl);have e:ZCb l s=o:=by unfold ZCb;rw[if_neg hs,h0]
   exact⟨trivial,_,[_,_],rfl,rfl,_,_,_,rfl,by rw[e];exact List.Perm.swap _ _ _⟩
theorem ZTY (l:Cx) (k:Nat) (hl:l.length≤4096) (hs:∀f∈l,f.length≤8) (hk:k≤100):CallC Tryz.prog 108 [dS Cpx l,dI (k:Int)] [] (fun d hp2=>∃v,d=dX v/\hp2=[Zk v 22 ZM (ZAl l k)]):=by
 (refine ZAh Tryz.func108 rfl rfl (fun hp=>?_);simp only[Tryz.ntmps108,List.length_cons,List.length_nil,List.length_append,List.length_map,Nat.reduceAdd,Nat.reduceSub,List.replicate_succ,List.replicate_zero,List.cons_append,List.nil_append,List.map_cons,List.map_nil,List.append_assoc])
 (repeat' (first|(apply WL.opN;exact yF;dsimp only[ZC,z0,z1])|refine WL.nil ?_|refine ZA fun Kx hK=>?_|(refine hK _ _ ?_;clear hK)|refine WC.region ?_|(apply WL.opN;(focus ((first|exact ZEN|fail);all_goals infer_instance));dsimp only[ZC,z0,z1])|refine WC.block ?_))
 refine Zq 22 ZM ?_;(refine WC.loopU (X:=Nat × Value × Cx) (fun x=>[(6,dI (x.1:Int)),(5,dX x.2.1),(7,dA),(8,dA),(9,dA),(10,dA),(11,dA),(12,dA),(13,dA),(14,dA),(15,dA),(16,dA),(17,dA),(18,dA),(19,dA),(20,dA),(21,dA),(22,dA),(23,dA),(24,dA),(25,dA),(26,dA),(27,dA),(28,dA),(29,dA),(30,dA),(31,dA),(32,dA),(33,dA),(34,dA),(35,dA),(36,dA),(37,dA),(38,dA),(39,dA),(40,dA),(41,dA),(42,dA)]) (fun x=>Zk x.2.1 22 ZM x.2.2::hp) (fun x=>l.length-x.1) (fun x=>x.1≤l.length/\x.2.2=ZAl (l.take x.1) k) (0,.slice none 0 0,[]) ?start ?frame0 ?objs0 ?round)
 case start=>exact⟨Nat.zero_le _,rfl⟩
 case frame0=>exact zFr
 case objs0=>rfl
 case round =>
  rintro⟨i,v,o⟩ ⟨h1,h2⟩;simp only at h1 h2;have hol:o.length≤256*i:=by rw[h2];exact ZD7 l k i hs h1
  dsimp only[ZL,z0,z1];((repeat' (first|(apply WL.opN;exact yF;dsimp only[ZC,z0,z1])|refine WL.nil ?_|refine ZA fun Kx hK=>?_|(refine hK _ _ ?_;clear hK)|(refine Kont.skip ?_;clear hK)|refine WC.region ?_|(apply WL.opN;(focus ((first|(apply SY.call (ZKs _ _ (Nat.le_trans (hs _ (List.getElem_mem _)) (by decide)) hk) Tryz.call136;(exact aD))|exact ZBF|exact ZFN|exact ZBg|exact ZA3|exact ZT|exact Z3|fail);all_goals infer_instance));dsimp only[ZC,z0,z1])|(apply ZB;(exact oD);all_goals (intro h;try exact xD))|refine WC.skip ?_|refine WC.ret ?_|refine WC.exit ?_|refine WC.block ?_|refine ThenD.n ?_));all_goals (first|refine WC.id ?_|((repeat clear hK);(repeat clear Kx))))
  ·(refine zNx (i+1,v,o) ?_;(try dsimp only))
   refine⟨by omega,?_⟩;show o=_;rw[ZDm (by omega),<- h2];exact(if_pos (by omega)).symm
  ·have hb:(ZX k l[i]).length≤256:=Nat.le_trans (ZAr _ _) (Nat.pow_le_pow_right (by decide) (hs _ (List.getElem_mem (show i<l.length by omega))):2 ^ l[i].length≤2 ^ 8);(refine WC.loopU (X:=Nat × Value × Cx) (fun x=>[(8,dI (x.1:Int)),(5,dX x.2.1),(31,dA),(32,dA),(33,dA),(34,dA),(35,dA),(36,dA),(37,dA),(38,dA),(39,dA),(40,dA),(41,dA),(42,dA)]) (fun x=>Zk x.2.1 22 ZM x.2.2::hp) (fun x=>(ZX k l[i]).length-x.1) (fun x=>x.1≤(ZX k l[i]).length/\x.2.2=((ZX k l[i]).take x.1).foldl ZCb o) (0,v,o) ?start ?frame0 ?objs0 ?round)
   case start=>exact⟨Nat.zero_le _,rfl⟩
   case frame0=>exact zFr
   case objs0=>rfl
   case round =>
    rintro⟨j,v',o'⟩ ⟨h3,h4⟩;simp only at h3 h4;have hol':o'.length≤3000000:=by
     have:=ZDW ((ZX k l[i]).take j) o;rw[List.length_take,Nat.min_eq_left h3,<- h4] at this;omega
    dsimp only[ZL,z0,z1];((repeat' (first|(apply WL.opN;exact yF;dsimp only[ZC,z0,z1])|refine WL.nil ?_|refine ZA fun Kx hK=>?_|(refine hK _ _ ?_;clear hK)|(refine Kont.skip ?_;clear hK)|refine WC.region ?_ |  (refine WL.callC (hp1:=[_]) (caps:=[]) (ZP5 _ _ _ hol') Tryz.call137 OpD.f (by(exact aD)) ?_;rintro d' hp2 ⟨v2,rfl,rfl⟩;dsimp only[ZC,z0,z1,List.cons_append,List.nil_append])|(apply WL.opN;(focus ((first|exact ZBF|exact ZBg|exact ZA3|exact ZT|fail);all_goals infer_instance));dsimp only[ZC,z0,z1])|(apply ZB;(exact oD);all_goals (intro h;try exact xD))|refine WC.skip ?_|refine WC.exit ?_|refine WC.block ?_|refine ThenD.n ?_));all_goals (first|((repeat clear hK);(repeat clear Kx))))
    ·(refine zNx (j+1,_,ZCb o' (ZX k l[i])[j]) ?_;(try dsimp only))
     refine⟨by omega,?_⟩;show ZCb o' _=_;rw[ZDs (by omega),<- h4]
    ·(refine zNx (i+1,v',o') ?_;(try dsimp only))
     refine⟨by omega,?_⟩;show o'=_;rw[ZDm (by omega),<- h2,h4,List.take_of_length_le (by omega)];exact(if_neg (by omega)).symm
  ·rw[List.take_of_length_le (by omega)] at h2;subst h2;exact⟨trivial,_,[_],rfl,rfl,_,rfl,rfl⟩
theorem ZM7 (l:Cx) (k:Nat) (hl:l.length≤4096) (hs:∀f∈l,f.length≤8) (hk:k≤100):Fn Tryz.prog 108 [dS Cpx l,dI (k:Int)] (dS Zh (ZAl l k)) :=
 ZLy (ZTY l k hl hs hk) (by rintro d hp2 ⟨v,rfl,rfl⟩;exact FinD.row (.head _))
theorem ZQQ {l:Cx} (h:∀s∈l,ZAC s=0):∀s∈l,s.length≤8:=fun s hs=>(Zi.1 (h s hs)).2.1
theorem ZLU (l:Cx):Fn Tryz.prog 106 [dS Cpx l] (dT [dI (ZBf l).1,dI (ZBf l).2]):=by
 (refine Z9 Tryz.func106 rfl rfl ?_;simp only[Tryz.ntmps106,List.length_cons,List.length_nil,Nat.reduceAdd,Nat.reduceSub,List.replicate_succ,List.replicate_zero,List.cons_append,List.nil_append])
 by_cases h0:ZBB l=0
 ·obtain⟨g1,_,_,g4⟩:=ZGq h0;have g5:=ZQQ g4;have g6:∀k,(ZAl l k).length≤2000000:=fun k=>by
   have:=ZD7 l k l.length g5 (Nat.le_refl _);rw[List.take_length] at this;omega
  (repeat' (first|(apply WL.opN;exact yF;dsimp only[ZC,z0,z1])|refine WL.nil ?_|refine ZA fun Kx hK=>?_|(refine hK _ _ ?_;clear hK)|refine WC.region ?_|(apply WL.opN;(focus ((first|(apply SY.call (ZGp _) Tryz.call48;(exact aD))|exact ZEn|exact ZEN|fail);all_goals infer_instance));dsimp only[ZC,z0,z1])|(apply ZG;(exact oD);all_goals (intro h;try exact xD))|refine WC.skip ?_|refine WC.block ?_))
  (refine WC.loopU (X:=Nat × Int) (fun x=>[(6,dI ((x.1:Int)+1)),(5,dI x.2),(2,dA),(3,dA),(7,dA),(13,dA),(14,dA),(15,dA),(16,dA),(17,dA),(18,dA),(19,dA),(20,dA),(21,dA),(22,dA),(23,dA),(24,dA),(25,dA),(26,dA),(27,dA),(28,dA),(29,dA),(30,dA),(31,dA)]) (fun x=>[]) (fun x=>8-x.1) (fun x=>x.1≤8/\x.2=ZHb l x.1/\(List.range x.1).any (fun k=>decide (4096<(ZAl l (k+1)).length))=false) (0,0) ?start ?frame0 ?objs0 ?round)
  case start=>exact⟨Nat.zero_le _,rfl,rfl⟩
  case frame0=>exact zFr
  case objs0=>rfl
  case round =>
   rintro⟨k,m⟩ ⟨h1,h5,h2⟩;simp only at h1 h2 h5;have hc:(k:Int)+1≤8->Fn Tryz.prog 108 [dS Cpx l,dI ((k:Int)+1)] (dS Zh (ZAl l (k+1))):=fun h=>ZM7 l (k+1) g1 g5 (by omega);have h3:=ZId l g6 k;rw[<- h5] at h3;have h4:=g6 (k+1);dsimp only[ZL,z0,z1];((repeat' (first|(apply WL.opN;exact yF;dsimp only[ZC,z0,z1])|refine WL.nil ?_|refine ZA fun Kx hK=>?_|(refine hK _ _ ?_;clear hK)|(refine Kont.skip ?_;clear hK)|refine WC.region ?_|(apply WL.opN;(focus ((first|(apply SY.call (hc (by assumption)) Tryz.call108;(exact aD))|exact ZNv|exact ZFN|exact ZHe|exact ZBg|exact ZLw|exact yRem|exact ZA3|fail);all_goals infer_instance));dsimp only[ZC,z0,z1])|(apply ZB;(exact oD);all_goals (intro h;try exact xD))|refine WC.skip ?_|refine WC.ret ?_|refine WC.exit ?_|refine WC.block ?_|refine ThenD.n ?_|refine ThenD.r ?_|refine InBlockD.r ?_));all_goals (first|((repeat clear hK);(repeat clear Kx))))
   ·unfold ZBf;rw[if_neg (by omega),if_pos (ZEe (show k<8 by omega) (decide_eq_true (by omega)))];(refine⟨trivial,⟨_,rfl,?_⟩,_,rfl,?_⟩ <;> exact fD)
   ·rw[ZNs] at h;have h9:(k+1) % 2=1:=by omega
    (refine zNx (k+1,m+(ZAl l (k+1)).length) ?_;(try dsimp only))
    refine⟨by omega,?_,?_⟩
    ·show _=ZHb l (k+1);unfold ZHb;rw[if_pos h9,h5]
    ·rw[ZBH,h2,decide_eq_false (by omega)];rfl
   ·rw[ZNs] at h;have h9:¬ (k+1) % 2=1:=by omega
    (refine zNx (k+1,m-(ZAl l (k+1)).length) ?_;(try dsimp only))
    refine⟨by omega,?_,?_⟩
    ·show _=ZHb l (k+1);unfold ZHb;rw[if_neg h9,h5]
    ·rw[ZBH,h2,decide_eq_false (by omega)];rfl
   ·have h9:k=8:=by omega
    subst h9;unfold ZBf;rw[if_neg (by omega),h2,if_neg Bool.false_ne_true,<- h5];(refine⟨trivial,⟨_,rfl,?_⟩,_,rfl,?_⟩ <;> exact fD)
 ·have e:ZBf l=(0,ZBB l):=by unfold ZBf;rw[if_pos h0]
  ((repeat' (first|(apply WL.opN;exact yF;dsimp only[ZC,z0,z1])|refine WL.nil ?_|refine ZA fun Kx hK=>?_|(refine hK _ _ ?_;clear hK)|refine WC.region ?_|(apply WL.opN;(focus ((first|(apply SY.call (ZGp _) Tryz.call48;(exact aD))|exact ZEn|exact ZEN|fail);all_goals infer_instance));dsimp only[ZC,z0,z1])|(apply ZG;(exact oD);all_goals (intro h;try exact xD))|refine WC.ret ?_|refine ThenD.r ?_));all_goals (first|((repeat clear hK);(repeat clear Kx))))
  all_goals (rw[e];(refine⟨trivial,⟨_,rfl,?_⟩,_,rfl,?_⟩ <;> exact fD))
end
section
theorem ZFo {f s:List Vx} (hf:Asc f) (hs:Asc s):f.Sublist s↔Z8 f s=true:=by
 constructor
 ·intro h;unfold Z8;rw[List.all_eq_true];intro x hx;simpa using h.subset hx
 ·intro h;have hsub:∀x∈f,x∈s:=fun x hx=>by
   have:=List.all_eq_true.1 h x hx;simpa using this
  have e:ZEl s f true=f:=asc_ext (ZFS hs) hf fun x=>by
   rw[ZFf];constructor
   ·intro ⟨_,h⟩;simpa using h
   ·intro hx;exact⟨hsub x hx,by simpa using hx⟩
  rw[<- e];exact ZEK
end
section
open Go.RowKit

theorem ZGu:∀n≤8,∀k≤8,ZFY n k≤70:=by decide
theorem ZLn {s:List Vx} (h:s.length≤8) (k:Nat):(ZX k s).length≤70:=by
 by_cases hk:k≤8
 ·rw[ZCS];exact ZGu _ h _ hk
 ·rw[ZAk k s (by omega)];simp
theorem ZGF {l:Cx} (h:∀s∈l,s.length≤8) (k:Nat):(ZAl l k).length≤70*l.length:=by
 have h1:(ZAl l k).length≤(ZHc l k).length:=List.Nodup.length_le_of_subset (ZCZ l _).nodup fun x hx=>ZGL.2 hx;have h2:∀l:Cx,(∀s∈l,s.length≤8)->(ZHc l k).length≤70*l.length:=by
  intro l;induction l with
  | nil=>intro _;simp[ZHc]
  | cons s l ih =>
   intro h;have e:ZHc (s::l) k=ZX k s++ZHc l k:=by unfold ZHc;simp
   rw[e,List.length_append,List.length_cons];have:=ZLn (h s (by simp)) k;have:=ih fun x hx=>h x (by simp[hx]);omega
 have:=h2 l h;omega
end
section
theorem ZIS (s a b:List Vx):ZC2 s (a++b)=ZC2 (ZC2 s a) b:=by unfold ZC2;rw[List.foldl_append]
theorem ZHK {a:Cx} {k:Nat} (h:k<a.length):ZET (a.take (k+1))=ZC2 (ZET (a.take k)) a[k]:=by
 unfold ZET;rw[Zf h,List.flatten_append,ZIS];simp
end
section
open Go.RowKit

theorem ZLd (w:World):(Instr.build 93 #[]).run Tryz.prog w = .ok (.agg #[.slice none 0 0,.nilFunc]) w:=by go_simp
section
variable {ops:Array Oper} {hp:List HObj} {fr:List Dat} {dst:Option Tmp} {ty:TypeId} {ps:String} {af:Array Edge} {g:Option (Nat × Bool)}
theorem ZCK:SY Tryz.prog ops hp ⟨dst,.build 93 #[],ty,ps,af,g⟩ fr (dX (.agg #[.slice none 0 0,.nilFunc])):=SY.val fun {I w a} ho=>by
 refine⟨_,?_,rfl⟩;unfold execOp;simp only[List.map_toArray,List.map_nil,Sem.run_bind,ZLd,Result.andThen_ok,Sem.run_pure]
end
end
section
open Go.RowKit

theorem ZFc {vs:List Vx} {A:List Int} {v:Vx} {k:Nat} (hk:k<vs.length) (hA:k<A.length):Zd (vs.drop k) (A.drop k) v=if vs[k]=v then A[k] else Zd (vs.drop (k+1)) (A.drop (k+1)) v:=by
 rw[List.drop_eq_getElem_cons hk,List.drop_eq_getElem_cons hA];rfl
theorem ZKU (vs:List Vx) (A:List Int) (v:Vx) (hA:A.length=vs.length) (hl:vs.length≤1000000):Fn Tryz.prog 89 [dS Lab (vs,A),dS RV v] (dI (Zd vs A v)):=by
 obtain⟨o,ho⟩:∃o,Zd vs A v=o:=⟨_,rfl⟩;rw[ho];(refine ZE Tryz.func89 rfl rfl ?_;simp only[Tryz.ntmps89,List.length_cons,List.length_nil,Nat.reduceAdd,Nat.reduceSub,List.replicate_succ,List.replicate_zero,List.cons_append,List.nil_append])
 (repeat' (first|((first|apply WL.opN|apply WD.opN);exact yF;dsimp only[ZC,z0,z1])|refine WL.nil ?_|refine ZA fun Kx hK=>?_|(refine hK _ _ ?_;clear hK)|refine WC.region ?_|((first|apply WL.opN|apply WD.opN);(focus ((first|(apply SY.box;(exact oD);(exact hD))|fail);all_goals infer_instance));dsimp only[ZC,z0,z1])|refine WC.block ?_))
 all_goals try (exfalso;first|contradiction|omega)
 (refine WC.loopU (X:=Nat) (fun k=>[(5,dI (k:Int)),(4,dA),(6,dA),(7,dA),(8,dA),(9,dA),(10,dA),(11,dA),(12,dA),(13,dA),(14,dA),(15,dA),(16,dA),(17,dA),(18,dA),(19,dA),(20,dA),(21,dA),(22,dA),(23,dA),(24,dA)]) (fun k=>[]) (fun k=>vs.length-k) (fun k=>k≤vs.length/\Zd (vs.drop k) (A.drop k) v=o) 0 ?start ?frame0 ?objs0 ?round)
 case start=>exact⟨Nat.zero_le _,ho⟩
 case frame0=>exact zFr
 case objs0=>rfl
 case round =>
  rintro k ⟨hk,hE⟩;dsimp only[ZL,z0,z1];by_cases hkl:k<vs.length
  ·have hkI:(k:Int)<(vs.length:Int):=by omega
   have hkA:k<A.length:=by omega
   rw[ZFc hkl hkA] at hE;by_cases he:vs[k]=v
   ·rw[if_pos he] at hE;subst hE;((repeat' (first|((first|apply WL.opN|apply WD.opN);exact yF;dsimp only[ZC,z0,z1])|refine WL.nil ?_|refine WD.nil ?_|refine ZA fun Kx hK=>?_|(refine hK _ _ ?_;clear hK)|refine WC.region ?_|(apply WC.draw;kernel_rfl;kernel_rfl)|((first|apply WL.opN|apply WD.opN);(focus ((first|(refine ZV ZAO (OpD.t rfl) Zx rfl rfl)|(apply SY.load;exact ZEM;exact OpD.t rfl)|(exact SY.ix (R:=RI) (_gR:=inferInstance) (k:=k) elI (OpD.t rfl) (OpD.t rfl) hkA)|((first|apply SY.move|apply SY.assign|apply SY.lss|apply SY.eql) <;> (exact oD))|(apply SY.len;(exact oD);(exact nD);(exact uD))|(apply Zn;(exact eD);(exact oD);(exact oD);exact kD)|(first|(apply SY.fld0 vxT <;> (exact oD))|(apply SY.fld1 vxT <;> (exact oD))|(apply ZGc vxT <;> (exact oD)))|fail);all_goals infer_instance));dsimp only[ZC,z0,z1])|(apply ZB;(exact oD);all_goals (intro h;try exact xD))|refine WC.skip ?_|refine WC.ret ?_|refine WC.block ?_|refine ThenD.r ?_|refine InBlockD.r ?_));all_goals (first|((repeat clear hK);(repeat clear Kx))))
    all_goals try (exfalso;first|contradiction|omega)
    (refine⟨trivial,_,rfl,?_⟩;exact fD)
   ·rw[if_neg he] at hE;((repeat' (first|((first|apply WL.opN|apply WD.opN);exact yF;dsimp only[ZC,z0,z1])|refine WL.nil ?_|refine WD.nil ?_|refine ZA fun Kx hK=>?_|(refine hK _ _ ?_;clear hK)|refine WC.region ?_|(apply WC.draw;kernel_rfl;kernel_rfl)|((first|apply WL.opN|apply WD.opN);(focus ((first|(refine ZV ZAO (OpD.t rfl) Zx rfl rfl)|((first|apply SY.move|apply SY.assign|apply SY.lss|apply SY.eql) <;> (exact oD))|((first|apply SY.add) <;> first|exact oD|omega)|(apply SY.len;(exact oD);(exact nD);(exact uD))|(apply Zn;(exact eD);(exact oD);(exact oD);exact kD)|(first|(apply SY.fld0 vxT <;> (exact oD))|(apply SY.fld1 vxT <;> (exact oD))|(apply ZGc vxT <;> (exact oD)))|fail);all_goals infer_instance));dsimp only[ZC,z0,z1])|(apply ZB;(exact oD);all_goals (intro h;try exact xD))|refine WC.skip ?_|refine WC.block ?_|refine ThenD.n ?_));all_goals (first|((repeat clear hK);(repeat clear Kx))))
    all_goals try (exfalso;first|contradiction|omega)
    (refine zNx (k+1) ?_;(try dsimp only))
    exact⟨hkl,hE⟩
  ·have hkI:¬ (k:Int)<(vs.length:Int):=by omega
   rw[List.drop_of_length_le (by omega)] at hE;have h0:o=0:=by rw[<- hE];unfold Zd;rfl
   subst h0;((repeat' (first|((first|apply WL.opN|apply WD.opN);exact yF;dsimp only[ZC,z0,z1])|refine WL.nil ?_|refine ZA fun Kx hK=>?_|(refine hK _ _ ?_;clear hK)|(refine Kont.skip ?_;clear hK)|refine WC.region ?_|((first|apply WL.opN|apply WD.opN);(focus ((first|(refine ZV ZAO (OpD.t rfl) Zx rfl rfl)|((first|apply SY.move|apply SY.assign|apply SY.lss|apply SY.eql) <;> (exact oD))|(apply SY.len;(exact oD);(exact nD);(exact uD))|fail);all_goals infer_instance));dsimp only[ZC,z0,z1])|(apply ZB;(exact oD);all_goals (intro h;try exact xD))|refine WC.ret ?_|refine WC.exit ?_));all_goals (first|((repeat clear hK);(repeat clear Kx))))
   all_goals try (exfalso;first|contradiction|omega)
   (refine⟨trivial,_,rfl,?_⟩;exact fD)
theorem ZHR (vs:List Vx) (A:List Int) (s:List Vx) (hA:A.length=vs.length) (hl:vs.length≤1000000):Fn Tryz.prog 90 [dS Lab (vs,A),dS ZM s] (dI (orL (Zd vs A) s)):=by
 (refine ZE Tryz.func90 rfl rfl ?_;simp only[Tryz.ntmps90,List.length_cons,List.length_nil,Nat.reduceAdd,Nat.reduceSub,List.replicate_succ,List.replicate_zero,List.cons_append,List.nil_append])
 (first|refine ZR (t:=1) rfl ZEH fun hl1=>?_|refine ZR (t:=1) rfl ZDu fun hl1=>?_|refine ZR (t:=1) rfl ZJS fun hl1=>?_);simp only[maxLen] at hl1
 (repeat' (first|((first|apply WL.opN|apply WD.opN);exact yF;dsimp only[ZC,z0,z1])|refine WL.nil ?_|refine ZA fun Kx hK=>?_|(refine hK _ _ ?_;clear hK)|refine WC.region ?_|((first|apply WL.opN|apply WD.opN);(focus ((first|(apply SY.box;(exact oD);(exact hD))|fail);all_goals infer_instance));dsimp only[ZC,z0,z1])|refine WC.block ?_))
 all_goals try (exfalso;first|contradiction|omega)
 (refine WC.loopU (X:=Nat) (fun k=>[(6,dI (k:Int)),(5,dI (orL (Zd vs A) (s.take k))),(7,dA),(8,dA),(9,dA),(10,dA),(11,dA),(12,dA),(13,dA),(14,dA),(15,dA),(16,dA),(17,dA),(18,dA),(19,dA),(20,dA)]) (fun k=>[]) (fun k=>s.length-k) (fun k=>k≤s.length) 0 ?start ?frame0 ?objs0 ?round)
 case start=>exact Nat.zero_le _
 case frame0=>exact zFr
 case objs0=>rfl
 case round =>
  rintro k hk;dsimp only[ZL,z0,z1];by_cases hkl:k<s.length
  ·have hkI:(k:Int)<(s.length:Int):=by omega
   have he:ior (orL (Zd vs A) (s.take k)) (Zd vs A s[k])=orL (Zd vs A) (s.take (k+1)):=by
    unfold orL;rw[List.take_succ_eq_append_getElem hkl,List.foldl_append];rfl
   have hof:=ZKU vs A s[k] hA hl;((repeat' (first|((first|apply WL.opN|apply WD.opN);exact yF;dsimp only[ZC,z0,z1])|refine WL.nil ?_|refine WD.nil ?_|refine ZA fun Kx hK=>?_|(refine hK _ _ ?_;clear hK)|refine WC.region ?_|(apply WC.draw;kernel_rfl;kernel_rfl)|((first|apply WL.opN|apply WD.opN);(focus ((first|(apply SY.load;exact ZAz;exact OpD.t rfl)|(apply SY.call (hof) Tryz.call89;(exact aD))|((first|apply SY.move|apply SY.assign|apply SY.lss|apply SY.or) <;> (exact oD))|((first|apply SY.add) <;> first|exact oD|omega)|(apply SY.len;(exact oD);(exact nD);(exact uD))|(apply Zn;(exact eD);(exact oD);(exact oD);exact kD)|fail);all_goals infer_instance));dsimp only[ZC,z0,z1])|(apply ZB;(exact oD);all_goals (intro h;try exact xD))|refine WC.skip ?_|refine WC.block ?_|refine ThenD.n ?_));all_goals (first|((repeat clear hK);(repeat clear Kx))))
   all_goals try (exfalso;first|contradiction|omega)
   rw[he];(refine zNx (k+1) ?_;(try dsimp only))
   omega
  ·have hkI:¬ (k:Int)<(s.length:Int):=by omega
   obtain rfl:k=s.length:=by omega
   rw[List.take_length];((repeat' (first|((first|apply WL.opN|apply WD.opN);exact yF;dsimp only[ZC,z0,z1])|refine WL.nil ?_|refine ZA fun Kx hK=>?_|(refine hK _ _ ?_;clear hK)|(refine Kont.skip ?_;clear hK)|refine WC.region ?_|((first|apply WL.opN|apply WD.opN);(focus ((first|((first|apply SY.move|apply SY.assign|apply SY.lss|apply SY.or) <;> (exact oD))|(apply SY.len;(exact oD);(exact nD);(exact uD))|fail);all_goals infer_instance));dsimp only[ZC,z0,z1])|(apply ZB;(exact oD);all_goals (intro h;try exact xD))|refine WC.ret ?_|refine WC.exit ?_));all_goals (first|((repeat clear hK);(repeat clear Kx))))
   all_goals try (exfalso;first|contradiction|omega)
   (refine⟨trivial,_,rfl,?_⟩;exact fD)
theorem ZI1 (vs:List Vx) (A:List Int) (s:List Vx) (k:Int) (hA:A.length=vs.length) (hl:vs.length≤1000000) (hk:0≤k/\k≤1000):Fn Tryz.prog 116 [dS Lab (vs,A),dS ZM s,dI k] (dB (decide (ZQs (orL (Zd vs A) s) (k+1)=0))):=by
 have hk1:0≤k+1:=by omega
 have ht:=ZHR vs A s hA hl;(refine ZE Tryz.func116 rfl rfl ?_;simp only[Tryz.ntmps116,List.length_cons,List.length_nil,Nat.reduceAdd,Nat.reduceSub,List.replicate_succ,List.replicate_zero,List.cons_append,List.nil_append])
 ((repeat' (first|(apply WL.opN;exact yF;dsimp only[ZC,z0,z1])|refine WL.nil ?_|refine ZA fun Kx hK=>?_|(refine hK _ _ ?_;clear hK)|refine WC.region ?_|(apply WL.opN;(focus ((first|(apply SY.load;exact ZAz;exact OpD.t rfl)|(apply SY.call (ht) Tryz.call90;(exact aD))|(exact SY.shr (OpD.t rfl) (OpD.t rfl) hk1)|((first|apply SY.move|apply SY.assign|apply SY.eql) <;> (exact oD))|((first|apply SY.add) <;> first|exact oD|omega)|(apply SY.box;(exact oD);(exact hD))|fail);all_goals infer_instance));dsimp only[ZC,z0,z1])|refine WC.ret ?_));all_goals (first|((repeat clear hK);(repeat clear Kx))))
 all_goals try (exfalso;first|contradiction|omega)
 (refine⟨trivial,_,rfl,?_⟩;exact fD)
theorem ZGm (vs:List Vx) (A:List Int) (s:List Vx) (k:Nat) (hA:A.length=vs.length) (hl:vs.length≤1000000) (hk:k≤8):Fn Tryz.prog 109 [dS Lab (vs,A),dS ZM s,dI (k:Int)] (dB (ZF6 (Zd vs A) (((2 ^ k:Nat):Int)-1) s)):=by
 have hp:=pow9 ⟨k,by omega⟩;simp only at hp;generalize hN:2 ^ k=N at hp;have ht:=ZHR vs A s hA hl;(refine ZE Tryz.func109 rfl rfl ?_;simp only[Tryz.ntmps109,List.length_cons,List.length_nil,Nat.reduceAdd,Nat.reduceSub,List.replicate_succ,List.replicate_zero,List.cons_append,List.nil_append])
 ((repeat' (first|(apply WL.opN;exact yF;dsimp only[ZC,z0,z1])|refine WL.nil ?_|refine ZA fun Kx hK=>?_|(refine hK _ _ ?_;clear hK)|refine WC.region ?_|(apply WL.opN;(focus ((first|(apply SY.load;exact ZAz;exact OpD.t rfl)|(refine hN ▸ ZLI hk OpD.i (OpD.t rfl))|(apply SY.call (ht) Tryz.call90;(exact aD))|((first|apply SY.move|apply SY.assign|apply SY.eql|apply SY.and) <;> (exact oD))|((first|apply SY.sub) <;> first|exact oD|omega)|(apply SY.box;(exact oD);(exact hD))|fail);all_goals infer_instance));dsimp only[ZC,z0,z1])|refine WC.ret ?_));all_goals (first|((repeat clear hK);(repeat clear Kx))))
 all_goals try (exfalso;first|contradiction|omega)
 (refine⟨trivial,_,rfl,?_⟩;exact fD)
end
end Go.Proofs.YtofkoleingbbpaaGreatDoor
