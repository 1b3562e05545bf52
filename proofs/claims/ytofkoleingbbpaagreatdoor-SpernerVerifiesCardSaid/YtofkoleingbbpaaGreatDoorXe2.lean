/- Part 2: walks by contracts, and plain laws. -/
import Derived.Test.YtofkoleingbbpaaGreatDoorXa16
import Derived.Test.YtofkoleingbbpaaGreatDoorXe1
set_option linter.unusedVariables false
set_option linter.unusedSimpArgs false
set_option linter.unusedSectionVars false
set_option maxRecDepth 100000
set_option maxHeartbeats 64000000
namespace Go.Proofs.YtofkoleingbbpaaGreatDoor
section
open Go.RowKit

theorem ZKs:∀(k:Nat) (s:List Vx),s.length≤10->k≤100->Fn Tryz.prog 136 [dS ZM s,dI (k:Int)] (dS Zh (ZX k s))
 | 0,s,hs,_=>by
  (refine ZE Tryz.func136 rfl rfl ?_;simp only[Tryz.ntmps136,List.length_cons,List.length_nil,Nat.reduceAdd,Nat.reduceSub,List.replicate_succ,List.replicate_zero,List.cons_append,List.nil_append])
  ((repeat' (first|((first|apply WL.opN|apply WD.opN);exact yF;dsimp only[ZC,z0,z1])|refine WL.nil ?_|refine ZA fun Kx hK=>?_|(refine hK _ _ ?_;clear hK)|refine WC.region ?_|((first|apply WL.opN|apply WD.opN);(focus ((first|(refine SY.build1' (R:=ArrK 2 RV) (els:=[[]]) ZB9 (ElsD.cons ⟨ZH (by decide)⟩ ElsD.nil) rfl rfl (fun _=>ZAf) (by simp))|exact ZHe|fail);all_goals infer_instance));dsimp only[ZC,z0,z1])|(apply ZB;(exact oD);all_goals (intro h;try exact xD))|refine WC.ret ?_|refine ThenD.r ?_));all_goals (first|((repeat clear hK);(repeat clear Kx))))
  (refine⟨trivial,_,rfl,?_⟩;refine ZEo ?_)
  simp[ZX]
 | k+1,s,hs,hk=>by
  have ih:=ZKs k;(refine ZE Tryz.func136 rfl rfl ?_;simp only[Tryz.ntmps136,List.length_cons,List.length_nil,Nat.reduceAdd,Nat.reduceSub,List.replicate_succ,List.replicate_zero,List.cons_append,List.nil_append])
  (repeat' (first|((first|apply WL.opN|apply WD.opN);exact yF;dsimp only[ZC,z0,z1])|refine WL.nil ?_|refine ZA fun Kx hK=>?_|(refine hK _ _ ?_;clear hK)|refine WC.region ?_|((first|apply WL.opN|apply WD.opN);(focus ((first|exact ZHe|fail);all_goals infer_instance));dsimp only[ZC,z0,z1])|(apply ZB;(exact oD);all_goals (intro h;try exact xD))|refine WC.skip ?_|refine WC.block ?_))
  refine Zq 22 (ArrK 2 RV) ?_;(refine WC.loopU (X:=Nat × Value × List (List Vx)) (fun x=>[(5,dX x.2.1),(6,dI (x.1:Int)),(7,dA),(8,dA),(12,dA),(13,dA),(14,dA),(15,dA),(16,dA),(17,dA),(18,dA),(19,dA),(20,dA),(21,dA),(22,dA),(23,dA),(24,dA),(25,dA),(26,dA),(27,dA),(28,dA),(29,dA),(30,dA),(31,dA),(32,dA),(33,dA),(34,dA),(35,dA),(36,dA),(37,dA),(38,dA),(39,dA),(40,dA),(41,dA),(42,dA),(43,dA),(44,dA),(45,dA)]) (fun x=>[Zk x.2.1 22 (ArrK 2 RV) x.2.2]) (fun x=>s.length-x.1) (fun x=>x.1≤s.length/\x.2.2++ZX (k+1) (s.drop x.1)=ZX (k+1) s) (0,.slice none 0 0,[]) ?start ?frame0 ?objs0 ?round)
  case start=>simp
  case frame0=>exact zFr
  case objs0=>rfl
  case round =>
   rintro⟨i,u,o⟩ ⟨h1,h2⟩;dsimp only[ZL,z0,z1];simp only at h1 h2;have hd:(s.drop (i+1)).length≤10:=by rw[List.length_drop];omega
   have ih':=ih (s.drop (i+1)) hd (by omega);((repeat' (first|((first|apply WL.opN|apply WD.opN);exact yF;dsimp only[ZC,z0,z1])|refine WL.nil ?_|refine ZA fun Kx hK=>?_|(refine hK _ _ ?_;clear hK)|(refine Kont.skip ?_;clear hK)|refine WC.region ?_|((first|apply WL.opN|apply WD.opN);(focus ((first|(apply SY.call (ih') Tryz.call136;(exact aD))|(apply ZGB elV (OpD.t rfl) (OpD.t rfl) (i+1);omega;omega)|exact ZNv|exact ZBg|exact ZLw|exact ZA3|fail);all_goals infer_instance));dsimp only[ZC,z0,z1])|(apply ZB;(exact oD);all_goals (intro h;try exact xD))|refine WC.skip ?_|refine WC.ret ?_|refine WC.exit ?_|refine WC.block ?_));all_goals (first|refine WC.id ?_|((repeat clear hK);(repeat clear Kx))))
   ·have hi:i<s.length:=by omega
    have hr:∀x∈ZX k (s.drop (i+1)),x.length=k:=ZDd _ _;rw[ZFp k s i hi] at h2;have hb:(ZX (k+1) s).length≤1024:=Nat.le_trans (ZAr _ _) (Nat.pow_le_pow_right (by decide) hs:2 ^ s.length≤2 ^ 10);have hrl:(ZX k (s.drop (i+1))).length≤1024:=Nat.le_trans (ZAr _ _) (Nat.pow_le_pow_right (by decide) hd:2 ^ (s.drop (i+1)).length≤2 ^ 10);generalize hrest:ZX k (s.drop (i+1))=rest at *;(refine WC.loopU (X:=Nat × Value × List (List Vx)) (fun x=>[(5,dX x.2.1),(8,dI (x.1:Int)),(27,dA),(28,dA),(29,dA),(30,dA),(31,dA),(32,dA),(33,dA),(34,dA),(35,dA),(36,dA),(37,dA),(38,dA),(39,dA),(40,dA),(41,dA),(42,dA),(43,dA),(44,dA),(45,dA)]) (fun x=>[Zk x.2.1 22 (ArrK 2 RV) x.2.2]) (fun x=>rest.length-x.1) (fun x=>x.1≤rest.length/\x.2.2++((rest.drop x.1).map (s[i] :: ·)++ZX (k+1) (s.drop (i+1)))=ZX (k+1) s) (0,u,o) ?start ?frame0 ?objs0 ?round)
    case start=>exact⟨Nat.zero_le _,by simpa using h2⟩
    case frame0=>exact zFr
    case objs0=>rfl
    case round =>
     rintro⟨j,u',o'⟩ ⟨h3,h4⟩;dsimp only[ZL,z0,z1];simp only at h3 h4;have ho:o'.length≤1024:=by rw[<- h4] at hb;simp at hb;omega
     ((repeat' (first |  (apply WC.drawTail 12;kernel_rfl;kernel_rfl;simp only[List.take_succ_cons,List.take_zero,List.drop_succ_cons,List.drop_zero])|(refine WRd.nil ?_)|(apply WRd.readL rfl;(focus (intro c hcc;apply SYG.yes;(exact Za rfl);((first|(apply SY.fullE;exact elV;((try simp only[List.map_cons,List.map_nil]);(repeat (first|exact Zp|(apply Zo;(first|exact OpD.t rfl|exact OpD.i|exact OpD.b)))));rfl;rfl;decide;(intro _;exact ZAj);(exact(by simp)))|(apply ZCJ;exact elV;exact OpD.t rfl;exact OpD.t rfl;decide;(have:=hr _ (List.getElem_mem (by omega:j<rest.length));simp;omega))|exact ZCX|exact yAssign|exact ZBF|exact ZNv|exact ZHe|exact ZBg|exact ZLw|exact ZDf|exact ZA3|exact ZT|exact ZBQ|exact ySlice|fail);all_goals infer_instance)));dsimp only[ZC,z0,z1])|((first|apply WL.opN|apply WD.opN);exact yF;dsimp only[ZC,z0,z1])|refine WL.nil ?_|refine WD.nil ?_|refine ZA fun Kx hK=>?_|(refine hK _ _ ?_;clear hK)|(refine Kont.skip ?_;clear hK)|refine WC.region ?_|(apply WC.draw;kernel_rfl;kernel_rfl)|((first|apply Zs|apply Zl);(exact eD);exact OpD.t rfl;(exact oD);(intro _;exact hD);(exact(by simp));(exact(by simp));(first|exact⟨by decide,by decide⟩|skip);decide;(exact lD);(intro _;dsimp only[ZC,z0,z1]);all_goals (try infer_instance))|((first|apply WL.appK|apply WL.app1);(exact eD);exact OpD.t rfl;(exact oD);decide;(exact lD);(intro _;dsimp only[ZC,z0,z1]);all_goals (try infer_instance))|((apply(WL.perm (List.Perm.swap _ _ _));(first|apply Zs|apply Zl);(exact eD);exact OpD.t rfl;(exact oD);(intro _;exact hD);(exact(by simp));(exact(by simp));(first|exact⟨by decide,by decide⟩|skip);decide;(exact lD);(intro _;dsimp only[ZC,z0,z1]);all_goals (try infer_instance)))|((apply(WL.perm (List.Perm.swap _ _ _));(first|apply WL.appK|apply WL.app1);(exact eD);exact OpD.t rfl;(exact oD);decide;(exact lD);(intro _;dsimp only[ZC,z0,z1]);all_goals (try infer_instance)))|((first|apply WL.opN|apply WD.opN);(focus ((first|(apply SY.fullE;exact elV;((try simp only[List.map_cons,List.map_nil]);(repeat (first|exact Zp|(apply Zo;(first|exact OpD.t rfl|exact OpD.i|exact OpD.b)))));rfl;rfl;decide;(intro _;exact ZAj);(exact(by simp)))|(apply ZCJ;exact elV;exact OpD.t rfl;exact OpD.t rfl;decide;(have:=hr _ (List.getElem_mem (by omega:j<rest.length));simp;omega))|exact ZBF|exact ZBg|exact ZA3|exact ZT|exact ZBQ|fail);all_goals infer_instance));dsimp only[ZC,z0,z1])|(apply Zc;(exact oD);(with_reducible rfl))|(apply ZQ;(exact oD);(with_reducible rfl))|(apply ZB;(exact oD);all_goals (intro h;try exact xD))|(apply ZG;(exact oD);all_goals (intro h;try exact xD))|(apply ZO;(exact oD);all_goals (intro h;try exact xD))|(apply WC.cond;(exact oD);all_goals (intro h;try exact xD))|refine WC.skip ?_|refine WC.ret ?_|refine WC.exit ?_|refine WC.block ?_|refine ThenD.n ?_|refine ThenD.r ?_|refine ThenD.x ?_|refine InBlockD.x ?_|refine InBlockD.n ?_|refine InBlockD.r ?_|refine ZCv (by decide) ?_));all_goals (first|refine WC.id ?_|refine WL.id ?_|((repeat clear hK);(repeat clear Kx))))
     ·have hj:j<rest.length:=by omega
      (refine zNx (j+1,_,_) ?_;(try dsimp only))
      refine⟨by omega,?_⟩;rw[<- h4,Zy hj];simp only[List.map_cons,List.append_assoc,List.cons_append,List.nil_append]
     ·rw[List.drop_of_length_le (by omega)] at h4;(refine zNx (i+1,_,_) ?_;(try dsimp only))
      exact⟨by omega,by simpa using h4⟩
   ·(refine⟨trivial,_,rfl,?_⟩;refine ZDl (.head _) ?_)
    rw[<- h2,ZAk _ _ (by rw[List.length_drop];omega)];simp

end
end Go.Proofs.YtofkoleingbbpaaGreatDoor
namespace Go.Proofs.YtofkoleingbbpaaGreatDoor.M
section
open Go.RowKit
open Go.RowKit





open Go.RowKit

section
variable {P:Program} {ops:Array Oper} {hp:List HObj} {o:Oper} {fr:List Dat} {d:Dat} {Q:Z5} {rest:List Oper}
variable {dst:Option Tmp} {ty:TypeId} {ps:String} {af:Array Edge} {g:Option (Nat × Bool)}


theorem ZEo {α:Type} {R:Rel α} {_gR:Good R} {x y:α} (h:x=y):FinD hp (dS R x) (dS R y):=FinD.le (ZLb (by rw[h]))
end


open Go.RowKit

section
variable {P:Program} {ops:Array Oper} {hp:List HObj} {o:Oper} {fr:List Dat} {d:Dat} {Q:Z5} {rest:List Oper}
variable {dst:Option Tmp} {ty:TypeId} {ps:String} {af:Array Edge} {g:Option (Nat × Bool)}

end



open Go.RowKit

end
end Go.Proofs.YtofkoleingbbpaaGreatDoor.M
namespace Go.Proofs.YtofkoleingbbpaaGreatDoor
section
theorem ZDs {l out:Cx} {k:Nat} (h:k<l.length):(l.take (k+1)).foldl ZCb out=ZCb ((l.take k).foldl ZCb out) l[k]:=by rw[Zf h,List.foldl_append];rfl
theorem ZEi:∀(l:Cx) (s:List Vx) (k:Nat),k≤l.length->(∀x∈l.take k,¬ ZAb s x<0)->ZFK l s=l.take k++ZFK (l.drop k) s
 | l,s,0,_,_=>by simp
 | [],s,k+1,h,_=>by simp at h
 | x::l,s,k+1,h,hx=>by
  have h1:¬ ZAb s x<0:=hx x (by simp);rw[List.take_succ_cons,List.drop_succ_cons]
  conv=>lhs;unfold ZFK
  rw[if_neg h1,ZEi l s k (by simpa using h) (fun y hy=>hx y (by simp[hy]))];rfl
theorem ZIm {l:Cx} {s:List Vx} {k:Nat} (h:k<l.length) (hx:∀x∈l.take k,¬ ZAb s x<0) (hk:ZAb s l[k]<0):ZFK l s=l.take k++s::l.drop k:=by
 rw[ZEi l s k (by omega) hx,Zy h]
 conv=>lhs;unfold ZFK
 rw[if_pos hk]
theorem ZIn {l:Cx} {s:List Vx} (hx:∀x∈l,¬ ZAb s x<0):ZFK l s=l++[s]:=by
 have:=ZEi l s l.length (Nat.le_refl _) (by rwa[List.take_length]);rw[this,List.take_length,List.drop_length];rfl
end
section
open Go.RowKit

theorem ZTt (l:Cx) (s:List Vx):Fn Tryz.prog 95 [dS Cpx l,dS ZM s] (dB (ZBm l s)):=by
 (refine ZE Tryz.func95 rfl rfl ?_;simp only[Tryz.ntmps95,List.length_cons,List.length_nil,Nat.reduceAdd,Nat.reduceSub,List.replicate_succ,List.replicate_zero,List.cons_append,List.nil_append])
 (repeat' (first|(apply WL.opN;exact yF;dsimp only[ZC,z0,z1])|refine WL.nil ?_|refine ZA fun Kx hK=>?_|(refine hK _ _ ?_;clear hK)|refine WC.region ?_|(apply WL.opN;(focus ((first|exact ZEN|fail);all_goals infer_instance));dsimp only[ZC,z0,z1])|refine WC.block ?_))
 (first|refine ZR (t:=0) rfl ZEH fun hl0=>?_|refine ZR (t:=0) rfl ZDu fun hl0=>?_|refine ZR (t:=0) rfl ZJS fun hl0=>?_);simp only[maxLen] at hl0
 (refine WC.loopU (X:=Nat) (fun k=>[(5,dI (k:Int)),(4,dA),(6,dA),(7,dA),(8,dA),(9,dA),(10,dA),(11,dA),(12,dA),(13,dA),(14,dA),(15,dA),(16,dA),(17,dA),(18,dA),(19,dA)]) (fun k=>[]) (fun k=>l.length-k) (fun k=>k≤l.length/\ZBm (l.take k) s=false) 0 ?start ?frame0 ?objs0 ?round)
 case start=>exact⟨Nat.zero_le _,rfl⟩
 case frame0=>exact zFr
 case objs0=>rfl
 case round =>
  rintro k ⟨h1,h2⟩;dsimp only[ZL,z0,z1];((repeat' (first|(apply WL.opN;exact yF;dsimp only[ZC,z0,z1])|refine WL.nil ?_|refine ZA fun Kx hK=>?_|(refine hK _ _ ?_;clear hK)|(refine Kont.skip ?_;clear hK)|refine WC.region ?_|(apply WL.opN;(focus ((first|(apply SY.call (ZEF _ _) Tryz.call87;(exact aD))|exact ZBF|exact ZBg|exact ZA3|exact ZT|exact Z3|fail);all_goals infer_instance));dsimp only[ZC,z0,z1])|(apply ZB;(exact oD);all_goals (intro h;try exact xD))|(apply WC.cond;(exact oD);all_goals (intro h;try exact xD))|refine WC.skip ?_|refine WC.ret ?_|refine WC.exit ?_|refine WC.block ?_|refine ThenD.n ?_|refine ThenD.r ?_|refine InBlockD.r ?_));all_goals (first|((repeat clear hK);(repeat clear Kx))))
  ·(refine⟨trivial,_,rfl,?_⟩;refine FinD.b ?_)
   symm
   unfold ZBm;rw[List.any_eq_true];exact⟨_,List.getElem_mem (show k<l.length by omega),h⟩
  ·(refine zNx (k+1) ?_;(try dsimp only))
   refine⟨by omega,?_⟩;unfold ZBm at h2 ⊢;rw[Zf (by omega),List.any_append,h2];simp[h]
  ·rw[List.take_of_length_le (by omega)] at h2;(refine⟨trivial,_,rfl,?_⟩;refine FinD.b ?_)
   rw[h2]
end
section
theorem ZGn {a:Nat} (h:a<9223372036854775808):(BitVec.ofInt 64 (a:Int)).toNat=a:=by
 rw[BitVec.ofInt_natCast,BitVec.toNat_ofNat];exact Nat.mod_eq_of_lt (by omega)
theorem ZHZ {a:Nat} (h:a<9223372036854775808):IntKind.i64.wrap (a:Int)=(a:Int):=ZD5 (by omega)
theorem ZT7 {a b:Nat} (ha:a<9223372036854775808) (hb:b<9223372036854775808):a ||| b<9223372036854775808 :=
 Nat.or_lt_two_pow (n:=63) ha hb
theorem ZIq {a b:Nat} (ha:a<9223372036854775808) (hb:b<9223372036854775808):ior (a:Int) (b:Int)=((a ||| b:Nat):Int):=by
 unfold ior;rw[BitVec.toNat_or,ZGn ha,ZGn hb];exact ZHZ (ZT7 ha hb)
end
section
open Go.RowKit

def twI (l:Cx) (i k:Nat):Bool:=decide (i≠k) && Z8 (l.getD i []) (l.getD k [])
theorem ZGp (l:Cx):Fn Tryz.prog 48 [dS Cpx l] (dI (ZBB l)):=by
 (refine ZE Tryz.func48 rfl rfl ?_;simp only[Tryz.ntmps48,List.length_cons,List.length_nil,Nat.reduceAdd,Nat.reduceSub,List.replicate_succ,List.replicate_zero,List.cons_append,List.nil_append])
 ((repeat' (first|((first|apply WL.opN|apply WD.opN);exact yF;dsimp only[ZC,z0,z1])|refine WL.nil ?_|refine ZA fun Kx hK=>?_|(refine hK _ _ ?_;clear hK)|refine WC.region ?_|((first|apply ZF|apply WD.op);(focus (first|exact wN|(apply SYG.yes;(exact wY);((first|exact ZFN|exact ZA3|exact Z3|exact ZEN|fail);all_goals infer_instance))));dsimp only[ZC,z0,z1])|(apply ZB;(exact oD);all_goals (intro h;try exact xD))|refine WC.skip ?_|refine WC.ret ?_|refine WC.block ?_|refine ThenD.r ?_));all_goals (first|refine WC.id ?_|((repeat clear hK);(repeat clear Kx))))
 ·(refine⟨trivial,_,rfl,?_⟩;refine FinD.i ?_)
  unfold ZBB;rw[if_pos (by omega)]
 ·have hs:ZBB l=if ZEf none l≠0 then ZEf none l else if ZB3 l=true then 7 else 0:=by unfold ZBB;rw[if_neg (by omega)]
  (refine WC.loopU (X:=Nat) (fun k=>[(4,dI (k:Int)),(2,dA),(5,dA),(13,dA),(14,dA),(15,dA),(16,dA),(17,dA),(18,dA),(19,dA),(20,dA),(21,dA),(22,dA),(23,dA),(24,dA),(25,dA),(26,dA),(27,dA),(28,dA),(29,dA),(30,dA),(31,dA),(32,dA),(33,dA),(34,dA),(35,dA),(36,dA),(37,dA),(38,dA),(39,dA),(40,dA),(41,dA)]) (fun k=>[]) (fun k=>l.length-k) (fun k=>k≤l.length/\ZEf none l=ZEf (l.take k).getLast? (l.drop k)) 0 ?start ?frame0 ?objs0 ?round)
  case start=>exact⟨Nat.zero_le _,rfl⟩
  case frame0=>exact zFr
  case objs0=>rfl
  case round =>
   rintro k ⟨h3,h4⟩;dsimp only[ZL,z0,z1];((repeat' (first|((first|apply WL.opN|apply WD.opN);exact yF;dsimp only[ZC,z0,z1])|refine WL.nil ?_|refine WD.nil ?_|refine ZA fun Kx hK=>?_|(refine hK _ _ ?_;clear hK)|(refine Kont.skip ?_;clear hK)|refine WC.region ?_|(apply WC.draw;kernel_rfl;kernel_rfl)|((first|apply ZF|apply WD.op);(focus (first|exact wN|(apply SYG.yes;(exact wY);((first|(apply SY.call (ZHv _ _) Tryz.call77;(exact aD))|(apply SY.call (ZRc _) Tryz.call53;(exact aD))|(apply ZOA ZB9 (OpD.t rfl) (OpD.t rfl) (k-1);omega;omega)|exact ZCX|exact ZBF|exact ZFN|exact ZNu|exact ZEn|exact ZBg|exact ZLw|exact ZDf|exact ZA3|exact ZT|exact ZCV|fail);all_goals infer_instance))));dsimp only[ZC,z0,z1])|((first|refine ZK rfl rfl rfl (fun h=>?_) (fun h=>?_)|refine ZJ rfl rfl rfl (fun h=>?_) (fun h=>?_)|refine ZI rfl rfl rfl (fun h=>?_) (fun h=>?_)|refine ZW rfl rfl rfl (fun h=>?_) (fun h=>?_)|refine ZU rfl rfl rfl (fun h=>?_) (fun h=>?_)|refine ZS rfl rfl rfl (fun h=>?_) (fun h=>?_)) <;> (first|(exfalso;first|omega|contradiction)|(dsimp only[z0,z1])))|(apply ZQ;(exact oD);(with_reducible rfl))|(apply ZB;(exact oD);all_goals (intro h;try exact xD))|(apply ZG;(exact oD);all_goals (intro h;try exact xD))|refine WC.skip ?_|refine WC.ret ?_|refine WC.exit ?_|refine WC.block ?_|refine ThenD.n ?_|refine ThenD.r ?_|refine InBlockD.r ?_));all_goals (first|refine WC.id ?_|((repeat clear hK);(repeat clear Kx))))
   all_goals try (rw[ZGt l k (by omega)] at h4)
   ·(refine⟨trivial,_,rfl,?_⟩;refine FinD.i ?_)
    rw[hs,h4,if_pos h,if_pos h]
   ·(refine⟨trivial,_,rfl,?_⟩;refine FinD.i ?_)
    have h5:¬ ZAC l[k]≠0:=by omega
    rw[if_neg h5,ZCF _ _ (by omega) (by omega),if_pos (by simpa using h)] at h4;rw[hs,h4];rfl
   ·(refine zNx (k+1) ?_;(try dsimp only))
    refine⟨by omega,?_⟩;have h5:¬ ZAC l[k]≠0:=by omega
    rw[h4,if_neg h5,ZCF _ _ (by omega) (by omega),if_neg (by simpa using h)]
   ·(refine zNx (k+1) ?_;(try dsimp only))
    refine⟨by omega,?_⟩;have h5:¬ ZAC l[k]≠0:=by omega
    have h0:(l.take k).getLast?=none:=by
     have:k=0:=by omega
     rw[this];rfl
    rw[h4,if_neg h5,h0];rfl
   ·rw[List.drop_of_length_le (by omega)] at h4;have h4':ZEf none l=0:=h4;have hs':ZBB l=if ZB3 l=true then 7 else 0:=by rw[hs,if_neg (by omega)]
    clear hs h4;(refine WC.loopU (X:=Nat) (fun i=>[(6,dI (i:Int)),(2,dA),(7,dA),(42,dA),(43,dA),(44,dA),(45,dA),(46,dA),(47,dA),(48,dA),(49,dA),(50,dA),(51,dA),(52,dA),(53,dA),(54,dA),(55,dA),(56,dA),(57,dA),(58,dA),(59,dA),(60,dA),(61,dA),(62,dA),(63,dA),(64,dA),(65,dA),(66,dA),(67,dA)]) (fun i=>[]) (fun i=>l.length-i) (fun i=>i≤l.length/\(List.range i).any (fun i=>(List.range l.length).any (twI l i))=false) 0 ?start ?frame0 ?objs0 ?round)
    case start=>exact⟨Nat.zero_le _,rfl⟩
    case frame0=>exact zFr
    case objs0=>rfl
    case round =>
     rintro i ⟨h5,h6⟩;dsimp only[ZL,z0,z1];((repeat' (first|((first|apply WL.opN|apply WD.opN);exact yF;dsimp only[ZC,z0,z1])|refine WL.nil ?_|refine ZA fun Kx hK=>?_|(refine hK _ _ ?_;clear hK)|(refine Kont.skip ?_;clear hK)|refine WC.region ?_|((first|apply ZF|apply WD.op);(focus (first|exact wN|(apply SYG.yes;(exact wY);((first|exact ZBF|exact ZA3|fail);all_goals infer_instance))));dsimp only[ZC,z0,z1])|(apply ZB;(exact oD);all_goals (intro h;try exact xD))|refine WC.skip ?_|refine WC.ret ?_|refine WC.exit ?_|refine WC.block ?_));all_goals (first|refine WC.id ?_|((repeat clear hK);(repeat clear Kx))))
     ·(refine WC.loopU (X:=Nat) (fun j=>[(7,dI (j:Int)),(2,dA),(48,dA),(49,dA),(50,dA),(51,dA),(52,dA),(53,dA),(54,dA),(55,dA),(56,dA),(57,dA),(58,dA),(59,dA),(60,dA),(61,dA),(62,dA),(63,dA),(64,dA),(65,dA),(66,dA),(67,dA)]) (fun j=>[]) (fun j=>l.length-j) (fun j=>j≤l.length/\(List.range j).any (twI l i)=false) 0 ?start ?frame0 ?objs0 ?round)
      case start=>exact⟨Nat.zero_le _,rfl⟩
      case frame0=>exact zFr
      case objs0=>rfl
      case round =>
       rintro j ⟨h7,h8⟩;dsimp only[ZL,z0,z1];((repeat' (first|((first|apply WL.opN|apply WD.opN);exact yF;dsimp only[ZC,z0,z1])|refine WL.nil ?_|refine WD.nil ?_|refine ZA fun Kx hK=>?_|(refine hK _ _ ?_;clear hK)|(refine Kont.skip ?_;clear hK)|refine WC.region ?_|(apply WC.draw;kernel_rfl;kernel_rfl)|((first|apply ZF|apply WD.op);(focus (first|exact wN|(apply SYG.yes;(exact wY);((first|(apply SY.call (ZEF _ _) Tryz.call87;(exact aD))|exact ZCX|exact ZBF|exact ZEn|exact ZBg|exact ZDf|exact ZA3|exact ZT|exact ZCV|fail);all_goals infer_instance))));dsimp only[ZC,z0,z1])|((first|refine ZK rfl rfl rfl (fun h=>?_) (fun h=>?_)|refine ZJ rfl rfl rfl (fun h=>?_) (fun h=>?_)|refine ZI rfl rfl rfl (fun h=>?_) (fun h=>?_)|refine ZW rfl rfl rfl (fun h=>?_) (fun h=>?_)|refine ZU rfl rfl rfl (fun h=>?_) (fun h=>?_)|refine ZS rfl rfl rfl (fun h=>?_) (fun h=>?_)) <;> (first|(exfalso;first|omega|contradiction)|(dsimp only[z0,z1])))|(apply ZQ;(exact oD);(with_reducible rfl))|(apply ZB;(exact oD);all_goals (intro h;try exact xD))|(apply WC.cond;(exact oD);all_goals (intro h;try exact xD))|refine WC.skip ?_|refine WC.ret ?_|refine WC.exit ?_|refine WC.block ?_|refine ThenD.n ?_|refine ThenD.r ?_|refine InBlockD.r ?_));all_goals (first|((repeat clear hK);(repeat clear Kx))))
       ·(refine⟨trivial,_,rfl,?_⟩;refine FinD.i ?_)
        have e:twI l i j=true:=by
         unfold twI;rw[ZBz (by omega),ZBz (by omega),h,decide_eq_true (by omega)];rfl
        rw[hs',if_pos (show ZB3 l=true from ZEe (k:=i) (by omega) (ZEe (k:=j) (by omega) e))]
       ·(refine zNx (j+1) ?_;(try dsimp only))
        refine⟨by omega,?_⟩;rw[ZBH,h8];unfold twI;rw[ZBz (by omega),ZBz (by omega),h,Bool.and_false];rfl
       ·(refine zNx (j+1) ?_;(try dsimp only))
        refine⟨by omega,?_⟩;rw[ZBH,h8];unfold twI;rw[decide_eq_false (by omega)];rfl
       ·rw[show j=l.length by omega] at h8;(refine zNx (i+1) ?_;(try dsimp only))
        refine⟨by omega,?_⟩;rw[ZBH,h6,h8];rfl
     ·rw[show i=l.length by omega] at h6;(refine⟨trivial,_,rfl,?_⟩;refine FinD.i ?_)
      have e:ZB3 l=false:=h6;rw[hs',e];rfl
end
end Go.Proofs.YtofkoleingbbpaaGreatDoor
