/- Part 30: walks by contracts, and plain laws. -/
import Derived.Test.YtofkoleingbbpaaGreatDoorXa29
set_option linter.unusedVariables false
set_option linter.unusedSimpArgs false
set_option linter.unusedSectionVars false
set_option maxRecDepth 100000
set_option maxHeartbeats 64000000
namespace Go.Proofs.YtofkoleingbbpaaGreatDoor
section
open Go.RowKit
section
variable {P:Program} {ops:Array Oper} {hp:List HObj} {fr:List Dat} {dst:Option Tmp} {ty:TypeId} {ps:String} {af:Array Edge} {g:Option (Nat × Bool)} {x:Operand}
theorem ZFP {i:Operand} {t e:TypeId} {z:Value} {bytes:Nat} (E:ElT P t e 1 z bytes false) {α:Type} {R:Rel α} {_gR:Good R} {xs:List α} {k:Nat} {v:α} (hk:k<xs.length) (hv:xs[k]=v) (hx:OpD fr x (dS (Arr R) xs)) (hi:OpD fr i (dI (k:Int))):SY P ops hp ⟨dst,.indexAddr t x i,ty,ps,af,g⟩ fr (dP 1 false (dS R v)):=hv ▸ SY.ix E hx hi hk
end

theorem ZMD {V:List Vx} {C:Cx} {s:List Vx} {k:Nat} (h:k<s.length):(s.take (k+1)).foldl (ZJx V C) []=ZJx V C ((s.take k).foldl (ZJx V C) []) s[k]:=by
 rw[Zf h,List.foldl_append];rfl
theorem ZQc (F:Cx) (V:List Vx) (C:Cx) (s:List Vx) (hl:C.length=V.length) (hc:∀c∈C,c.length≤8) (hs:s.length≤10):Fn Tryz.prog 93 [dS ZUs (F,V,C),dS ZM s] (dS ZM (unP V C s)):=by
 have hn:=fun k=>ZOv V C hc (s.take k) [];(refine ZE Tryz.func93 rfl rfl ?_;simp only[Tryz.ntmps93,List.length_cons,List.length_nil,Nat.reduceAdd,Nat.reduceSub,List.replicate_succ,List.replicate_zero,List.cons_append,List.nil_append])
 (repeat' (first|(apply WL.opN;exact yF;dsimp only[ZC,z0,z1])|refine WL.nil ?_|refine ZA fun Kx hK=>?_|(refine hK _ _ ?_;clear hK)|refine WC.region ?_|(apply WL.opN;(focus ((first|(exact SY.box (OpD.t rfl) ZCC)|(apply SY.len;(exact oD);(exact nD);(exact uD))|fail);all_goals infer_instance));dsimp only[ZC,z0,z1])|refine WC.block ?_))
 refine ZCy 77 2 (by decide) RV ?_;(refine WC.loopU (X:=Nat × Value) (fun x=>[(5,dX x.2),(13,dI (x.1:Int)),(7,dA),(8,dA),(14,dA),(15,dA),(16,dA),(17,dA),(18,dA),(19,dA),(20,dA),(21,dA),(22,dA),(23,dA),(24,dA),(25,dA),(26,dA),(27,dA),(28,dA),(29,dA),(30,dA)]) (fun x=>[Z0 x.2 77 2 RV ((s.take x.1).foldl (ZJx V C) [])]) (fun x=>s.length-x.1) (fun x=>x.1≤s.length) (0,.slice none 0 0) ?start ?frame0 ?objs0 ?round)
 case start=>simp
 case frame0=>exact zFr
 case objs0=>rfl
 case round =>
  rintro⟨k,u⟩ h1;dsimp only[ZL,z0,z1];simp only at h1;have hk8:=hn k;rw[List.length_take,List.length_nil] at hk8;by_cases hk:k<s.length
  ·have c1:Fn Tryz.prog 94 [dS ZM V,dS RV s[k]] (dI (ZKc V s[k])):=ZVF _ _;by_cases hp:0≤ZKc V s[k]
   ·obtain⟨j,e,hj,_⟩:=ZSA hp;have hjC:j<C.length:=by omega
    have hc8:=hc _ (List.getElem_mem hjC);have es:ZJx V C ((s.take k).foldl (ZJx V C) []) s[k]=(s.take k).foldl (ZJx V C) []++C[j]:=by
     unfold ZJx;rw[if_pos hp,e,Int.toNat_natCast,List.getElem?_eq_getElem hjC,Option.getD_some]
    rw[e] at c1;((repeat' (first|(apply WL.opN;exact yF;dsimp only[ZC,z0,z1])|refine WL.nil ?_|refine ZA fun Kx hK=>?_|(refine hK _ _ ?_;clear hK)|refine WC.region ?_|((first|apply WL.appK|apply WL.app1);(exact eD);exact OpD.t rfl;(exact oD);decide;(exact lD);(intro _;dsimp only[ZC,z0,z1]);all_goals (try infer_instance))|(apply WL.alloc;(first|exact tzV|exact tzC);(first|exact Zw rfl|exact ZAU|exact shape_C0 rfl);(intro _;dsimp only[ZC,z0,z1]))|(apply ZP;(exact tD);rfl;(exact oD);(exact hD);dsimp only[ZC,z0,z1])|(apply WL.opN;(focus ((first|(exact ZV ZJK (OpD.t rfl) ZFx rfl rfl)|(apply SY.call (c1) Tryz.call94;(exact aD))|(refine ZFP (R:=ZM) (_gR:=inferInstance) ZB9 hjC rfl (OpD.t rfl) (OpD.t rfl))|((first|apply SY.move|apply SY.assign|apply SY.lss|apply SY.geq|apply SY.neq) <;> (exact oD))|((first|apply SY.add) <;> first|exact oD|omega)|(apply Zn;(exact eD);(exact oD);(exact oD);exact kD)|fail);all_goals infer_instance));dsimp only[ZC,z0,z1])|(apply ZB;(exact oD);all_goals (intro h;try exact xD))|refine WC.skip ?_|refine WC.block ?_|refine ThenD.n ?_));all_goals (first|((repeat clear hK);(repeat clear Kx))))
    all_goals try (exfalso;omega)
    (refine⟨(k+1,_) , ?_,by first|omega|(simp only;omega),by((try simp only);  (rw[ZMD hk,es])),?_⟩;rotate_left;((try dsimp only[ZL,z0,z1]);repeat (first|exact LeF.nil|refine ZD (k:=?_)));(try dsimp only))
    omega
   ·((repeat' (first|(apply WL.opN;exact yF;dsimp only[ZC,z0,z1])|refine WL.nil ?_|refine ZA fun Kx hK=>?_|(refine hK _ _ ?_;clear hK)|refine WC.region ?_|(apply WL.alloc;(first|exact tzV|exact tzC);(first|exact Zw rfl|exact ZAU|exact shape_C0 rfl);(intro _;dsimp only[ZC,z0,z1]))|(apply ZP;(exact tD);rfl;(exact oD);(exact hD);dsimp only[ZC,z0,z1])|(apply WL.opN;(focus ((first|(exact ZV ZJK (OpD.t rfl) ZFx rfl rfl)|(apply SY.call (c1) Tryz.call94;(exact aD))|((first|apply SY.move|apply SY.assign|apply SY.lss|apply SY.geq|apply SY.neq) <;> (exact oD))|((first|apply SY.add) <;> first|exact oD|omega)|(apply Zn;(exact eD);(exact oD);(exact oD);exact kD)|fail);all_goals infer_instance));dsimp only[ZC,z0,z1])|(apply ZB;(exact oD);all_goals (intro h;try exact xD))|refine WC.skip ?_|refine WC.block ?_|refine ThenD.n ?_));all_goals (first|((repeat clear hK);(repeat clear Kx))))
    all_goals try (exfalso;omega)
    (refine⟨(k+1,_) , ?_,by first|omega|(simp only;omega),by((try simp only);  (rw[ZMD hk,show ZJx V C ((s.take k).foldl (ZJx V C) []) s[k]=_ from if_neg hp])),?_⟩;rotate_left;((try dsimp only[ZL,z0,z1]);repeat (first|exact LeF.nil|refine ZD (k:=?_)));(try dsimp only))
    omega
  ·(repeat' (first|(apply WL.opN;exact yF;dsimp only[ZC,z0,z1])|refine WL.nil ?_|refine ZA fun Kx hK=>?_|(refine hK _ _ ?_;clear hK)|(refine Kont.skip ?_;clear hK)|refine WC.region ?_|(apply WL.opN;(focus ((first|((first|apply SY.move|apply SY.assign|apply SY.lss|apply SY.geq|apply SY.neq) <;> (exact oD))|fail);all_goals infer_instance));dsimp only[ZC,z0,z1])|(apply ZB;(exact oD);all_goals (intro h;try exact xD))|refine WC.exit ?_))
   all_goals try (exfalso;omega)
   rw[List.take_of_length_le (by omega),show s.foldl (ZJx V C) []=ZSp V C s from rfl];have hq:=hn s.length;rw[List.take_of_length_le (Nat.le_refl _),List.length_nil,show s.foldl (ZJx V C) []=ZSp V C s from rfl] at hq;refine ZIP (s:=32) rfl ?_;dsimp only[z0,z1];have c2:=of_p (ZSp V C s) (by omega);have c3:unP V C s=if(ofV (ZSp V C s)).2≠0 then[] else(ofV (ZSp V C s)).1:=rfl
   generalize ofV (ZSp V C s)=O at *;((repeat' (first|(apply WL.opN;exact yF;dsimp only[ZC,z0,z1])|refine WL.nil ?_|refine ZA fun Kx hK=>?_|(refine hK _ _ ?_;clear hK)|refine WC.region ?_|(apply WL.opN;(focus ((first|(apply SY.call (c2) Tryz.call130;(exact aD))|((first|apply SY.move|apply SY.assign|apply SY.lss|apply SY.geq|apply SY.neq) <;> (exact oD))|(apply SY.extract;(exact oD);rfl)|fail);all_goals infer_instance));dsimp only[ZC,z0,z1])|(apply ZG;(exact oD);all_goals (intro h;try exact xD))|refine WC.skip ?_|refine WC.ret ?_|refine ThenD.r ?_));all_goals (first|((repeat clear hK);(repeat clear Kx))))
   ·rw[c3,if_pos (by omega)];(refine⟨trivial,_,rfl,?_⟩;exact fD)
   ·rw[c3,if_neg (by omega)];(refine⟨trivial,_,rfl,?_⟩;exact fD)
theorem okP_p (c:Cx) (V:List Vx) (C:Cx) (f:List Vx):okP c V C f=true↔(ZEg c (unP V C f)).2=0/\(ZEg c (unP V C f)).1=true:=by unfold okP;simp
theorem ZOu {c C:Cx} {k:Nat} (h:k<C.length):ZNw c (C.drop k)=if ZAC C[k]≠0 then ZAC C[k] else if ZBm c C[k]=false then 6 else ZNw c (C.drop (k+1)):=by
 rw[List.drop_eq_getElem_cons h];rfl
theorem ZNG {c:Cx} (h:ZBB c=0) (s:List Vx):ZEg c s=if ZAC s≠0 then(false,ZAC s) else(ZBm c s,0):=by
 unfold ZEg plC;rw[if_neg (show ¬ ZBB c≠0 by omega)]
theorem ZJz {p:List Vx->Bool} {c F:Cx} {V:List Vx} {C:Cx} (h1:ZBB c=0) (h2:ZBB F=0) (h3:V=ZET F/\C.length=V.length) {n:Int} (h4:ZNw c C=n) (h5:n≠0):ZDo p c F V C=n:=by
 unfold ZDo;rw[if_neg (by omega),if_neg (by omega),if_neg (not_not_intro h3),if_pos (by omega),h4]
theorem ZO1 {p:List Vx->Bool} {c F:Cx} {V:List Vx} {C:Cx} (h1:ZBB c=0) (h2:ZBB F=0) (h3:V=ZET F/\C.length=V.length) (h4:ZNw c C=0):ZDo p c F V C=if F.all p=true then 0 else 22:=by
 unfold ZDo;rw[if_neg (by omega),if_neg (by omega),if_neg (not_not_intro h3),if_neg (by omega)]
theorem ZRU {α:Type} {p:α->Bool} {l:List α} {k:Nat} (h:k<l.length):(l.drop k).all p=(p l[k] && (l.drop (k+1)).all p):=by
 rw[List.drop_eq_getElem_cons h];rfl
theorem ZTd (c F:Cx) (V:List Vx) (C:Cx) (hF:ZBB F=0->F.flatten.length≤1000) (hC:C.length≤100):Fn Tryz.prog 51 [dS Cpx c,dS ZUs (F,V,C)] (dI (ZDo (okP c V C) c F V C)):=by
 (refine ZE Tryz.func51 rfl rfl ?_;simp only[Tryz.ntmps51,List.length_cons,List.length_nil,Nat.reduceAdd,Nat.reduceSub,List.replicate_succ,List.replicate_zero,List.cons_append,List.nil_append])
 have c1:=ZCg c;have c2:=ZK1 F hF;by_cases h1:ZBB c≠0
 ·rw[show ZDo (okP c V C) c F V C=ZBB c from if_pos h1];((repeat' (first|((first|apply WL.opN|apply WD.opN);exact yF;dsimp only[ZC,z0,z1])|refine WL.nil ?_|refine ZA fun Kx hK=>?_|(refine hK _ _ ?_;clear hK)|refine WC.region ?_|((first|apply ZF|apply WD.op);(focus (first|exact wN|(apply SYG.yes;(exact wY);((first|(exact SY.box (OpD.t rfl) ZCC)|(apply SY.call (c1) Tryz.call43;(exact aD))|((first|apply SY.move|apply SY.assign|apply SY.lss|apply SY.neq|apply SY.not) <;> (exact oD))|(apply SY.box;(exact oD);(exact hD))|fail);all_goals infer_instance))));dsimp only[ZC,z0,z1])|(apply ZG;(exact oD);all_goals (intro h;try exact xD))|refine WC.ret ?_|refine ThenD.r ?_));all_goals (first|((repeat clear hK);(repeat clear Kx))))
  all_goals try (exfalso;omega)
  (refine⟨trivial,_,rfl,?_⟩;exact fD)
 have h1':ZBB c=0:=by omega
 by_cases h2:ZBB F≠0
 ·rw[show ZDo (okP c V C) c F V C=ZBB F by unfold ZDo;rw[if_neg h1,if_pos h2]];rw[show ZTF F=([],ZBB F) from if_pos h2] at c2;((repeat' (first|((first|apply WL.opN|apply WD.opN);exact yF;dsimp only[ZC,z0,z1])|refine WL.nil ?_|refine ZA fun Kx hK=>?_|(refine hK _ _ ?_;clear hK)|refine WC.region ?_|((first|apply ZF|apply WD.op);(focus (first|exact wN|(apply SYG.yes;(exact wY);((first|(exact SY.box (OpD.t rfl) ZCC)|(exact ZV ZJK (OpD.t rfl) ZFx rfl rfl)|(exact ZBA tyC (OpD.t rfl))|(apply SY.call (c1) Tryz.call43;(exact aD))|(apply SY.call (c2) Tryz.call91;(exact aD))|((first|apply SY.move|apply SY.assign|apply SY.lss|apply SY.neq|apply SY.not) <;> (exact oD))|(apply SY.extract;(exact oD);rfl)|(apply SY.box;(exact oD);(exact hD))|fail);all_goals infer_instance))));dsimp only[ZC,z0,z1])|(apply ZG;(exact oD);all_goals (intro h;try exact xD))|refine WC.skip ?_|refine WC.ret ?_|refine ThenD.r ?_));all_goals (first|((repeat clear hK);(repeat clear Kx))))
  all_goals try (exfalso;omega)
  (refine⟨trivial,_,rfl,?_⟩;exact fD)
 have h2':ZBB F=0:=by omega
 have hFl:F.length≤4096:=(ZAY.1 h2').1;rw[show ZTF F=(ZET F,0) from if_neg h2] at c2;have c3:=ZU5 (ZET F) V;by_cases h3:V=ZET F/\C.length=V.length
 ·rw[decide_eq_true h3.1.symm] at c3;have hsh:=(ZAY.1 h2').short;have h34:=h3.2;have h3':=h3;clear h3;(repeat' (first|((first|apply WL.opN|apply WD.opN);exact yF;dsimp only[ZC,z0,z1])|refine WL.nil ?_|refine ZA fun Kx hK=>?_|(refine hK _ _ ?_;clear hK)|refine WC.region ?_|((first|apply ZF|apply WD.op);(focus (first|exact wN|(apply SYG.yes;(exact wY);((first|(exact SY.box (OpD.t rfl) ZCC)|(exact ZV ZJK (OpD.t rfl) ZFx rfl rfl)|(exact ZBA tyC (OpD.t rfl))|(exact ZDO (OpD.t rfl))|(apply SY.call (c1) Tryz.call43;(exact aD))|(apply SY.call (c2) Tryz.call91;(exact aD))|(apply SY.call (c3) Tryz.call36;(exact aD))|((first|apply SY.move|apply SY.assign|apply SY.lss|apply SY.neq|apply SY.not) <;> (exact oD))|(apply SY.load;(exact tD);(exact oD))|(apply SY.len;(exact oD);(exact nD);(exact uD))|(apply ZY;(exact oD);(with_reducible rfl);(exact oD))|(apply SY.extract;(exact oD);rfl)|(apply SY.box;(exact oD);(exact hD))|fail);all_goals infer_instance))));dsimp only[ZC,z0,z1])|(apply ZG;(exact oD);all_goals (intro h;try exact xD))|refine WC.skip ?_|refine WC.block ?_))
  all_goals try (exfalso;omega)
  (refine WC.loopU (X:=Nat) (fun k=>[(47,dI (k:Int)),(4,dA),(9,dA),(10,dA),(11,dA),(48,dA),(49,dA),(50,dA),(51,dA),(52,dA),(53,dA),(54,dA),(55,dA),(56,dA),(57,dA),(58,dA),(59,dA),(60,dA),(61,dA),(62,dA)]) (fun k=>[]) (fun k=>C.length-k) (fun k=>k≤C.length/\ZNw c C=ZNw c (C.drop k)) 0 ?start ?frame0 ?objs0 ?round)
  case start=>exact⟨Nat.zero_le _,rfl⟩
  case frame0=>exact zFr
  case objs0=>rfl
  case round =>
   rintro k ⟨k1,k2⟩;dsimp only[ZL,z0,z1];by_cases hk:k<C.length
   ·rw[ZOu hk] at k2;have c4:=ZDp c C[k];rw[ZNG h1'] at c4;by_cases q1:ZAC C[k]≠0
    ·rw[if_pos q1] at k2 c4;rw[ZJz h1' h2' h3' k2 q1];((repeat' (first|((first|apply WL.opN|apply WD.opN);exact yF;dsimp only[ZC,z0,z1])|refine WL.nil ?_|refine ZA fun Kx hK=>?_|(refine hK _ _ ?_;clear hK)|refine WC.region ?_|((first|apply ZF|apply WD.op);(focus (first|exact wN|(apply SYG.yes;(exact wY);((first|(refine ZFP (R:=ZM) (_gR:=inferInstance) ZB9 hk rfl (OpD.t rfl) (OpD.t rfl))|(apply SY.call (c4) Tryz.call92;(exact aD))|((first|apply SY.move|apply SY.assign|apply SY.lss|apply SY.neq|apply SY.not) <;> (exact oD))|(apply SY.extract;(exact oD);rfl)|fail);all_goals infer_instance))));dsimp only[ZC,z0,z1])|(apply ZB;(exact oD);all_goals (intro h;try exact xD))|(apply ZG;(exact oD);all_goals (intro h;try exact xD))|refine WC.skip ?_|refine WC.ret ?_|refine WC.block ?_|refine ThenD.r ?_|refine InBlockD.r ?_));all_goals (first|((repeat clear hK);(repeat clear Kx))))
     all_goals try (exfalso;omega)
     (refine⟨trivial,_,rfl,?_⟩;exact fD)
    ·rw[if_neg q1] at k2 c4;by_cases q2:ZBm c C[k]=true
     ·rw[if_neg (by rw[q2];decide)] at k2;rw[q2] at c4;((repeat' (first|((first|apply WL.opN|apply WD.opN);exact yF;dsimp only[ZC,z0,z1])|refine WL.nil ?_|refine ZA fun Kx hK=>?_|(refine hK _ _ ?_;clear hK)|refine WC.region ?_|((first|apply ZF|apply WD.op);(focus (first|exact wN|(apply SYG.yes;(exact wY);((first|(refine ZFP (R:=ZM) (_gR:=inferInstance) ZB9 hk rfl (OpD.t rfl) (OpD.t rfl))|(exact ZDO (OpD.t rfl))|(apply SY.call (c4) Tryz.call92;(exact aD))|((first|apply SY.move|apply SY.assign|apply SY.lss|apply SY.neq|apply SY.not) <;> (exact oD))|((first|apply SY.add) <;> first|exact oD|omega)|(apply SY.extract;(exact oD);rfl)|fail);all_goals infer_instance))));dsimp only[ZC,z0,z1])|(apply ZQ;(exact oD);(with_reducible rfl))|(apply ZB;(exact oD);all_goals (intro h;try exact xD))|(apply ZG;(exact oD);all_goals (intro h;try exact xD))|refine WC.skip ?_|refine WC.block ?_|refine ThenD.n ?_));all_goals (first|((repeat clear hK);(repeat clear Kx))))
      all_goals try (exfalso;omega)
      (refine zNx (k+1) ?_;(try dsimp only))
      exact⟨by omega,k2⟩
     ·have q3:ZBm c C[k]=false:=by simpa using q2
      rw[if_pos q3] at k2;rw[q3] at c4;rw[ZJz h1' h2' h3' k2 (by decide)];((repeat' (first|((first|apply WL.opN|apply WD.opN);exact yF;dsimp only[ZC,z0,z1])|refine WL.nil ?_|refine ZA fun Kx hK=>?_|(refine hK _ _ ?_;clear hK)|refine WC.region ?_|((first|apply ZF|apply WD.op);(focus (first|exact wN|(apply SYG.yes;(exact wY);((first|(refine ZFP (R:=ZM) (_gR:=inferInstance) ZB9 hk rfl (OpD.t rfl) (OpD.t rfl))|(apply SY.call (c4) Tryz.call92;(exact aD))|((first|apply SY.move|apply SY.assign|apply SY.lss|apply SY.neq|apply SY.not) <;> (exact oD))|(apply SY.extract;(exact oD);rfl)|fail);all_goals infer_instance))));dsimp only[ZC,z0,z1])|(apply ZB;(exact oD);all_goals (intro h;try exact xD))|(apply ZG;(exact oD);all_goals (intro h;try exact xD))|(apply ZO;(exact oD);all_goals (intro h;try exact xD))|refine WC.skip ?_|refine WC.ret ?_|refine WC.block ?_|refine ThenD.r ?_|refine InBlockD.r ?_));all_goals (first|((repeat clear hK);(repeat clear Kx))))
      all_goals try (exfalso;omega)
      (refine⟨trivial,_,rfl,?_⟩;exact fD)
   ·rw[List.drop_of_length_le (by omega)] at k2;have hC8:∀s∈C,s.length≤8:=fun s hs=>(Zi.1 (ZJw (show ZNw c C=0 from k2) s hs).1).2.1;have hend:=ZO1 (p:=okP c V C) h1' h2' h3' k2;clear k2 c1 c2 c3;(repeat' (first|((first|apply WL.opN|apply WD.opN);exact yF;dsimp only[ZC,z0,z1])|refine WL.nil ?_|refine ZA fun Kx hK=>?_|(refine hK _ _ ?_;clear hK)|(refine Kont.skip ?_;clear hK)|refine WC.region ?_|((first|apply ZF|apply WD.op);(focus (first|exact wN|(apply SYG.yes;(exact wY);((first|(exact ZV ZJK (OpD.t rfl) ZFx rfl rfl)|(exact ZN8 strCx (Nat.le_refl 1) (OpD.t rfl))|((first|apply SY.move|apply SY.assign|apply SY.lss|apply SY.neq|apply SY.not) <;> (exact oD))|(apply SY.len;(exact oD);(exact nD);(exact uD))|fail);all_goals infer_instance))));dsimp only[ZC,z0,z1])|(apply ZB;(exact oD);all_goals (intro h;try exact xD))|refine WC.exit ?_|refine WC.block ?_))
    all_goals try (exfalso;omega)
    (refine WC.loopU (X:=Nat) (fun j=>[(67,dI (j:Int)),(4,dA),(13,dA),(14,dA),(15,dA),(68,dA),(69,dA),(70,dA),(71,dA),(72,dA),(73,dA),(74,dA),(75,dA),(76,dA),(77,dA),(78,dA),(79,dA),(80,dA),(81,dA),(82,dA),(83,dA),(84,dA),(85,dA)]) (fun j=>[]) (fun j=>F.length-j) (fun j=>j≤F.length/\F.all (okP c V C)=(F.drop j).all (okP c V C)) 0 ?start ?frame0 ?objs0 ?round)
    case start=>exact⟨Nat.zero_le _,rfl⟩
    case frame0=>exact zFr
    case objs0=>rfl
    case round =>
     rintro j ⟨j1,j2⟩;dsimp only[ZL,z0,z1];by_cases hj:j<F.length
     ·have c5:=ZQc F V C F[j] h34 hC8 (by have:=hsh _ (List.getElem_mem hj);omega);have c6:=ZDp c (unP V C F[j]);have hok:=okP_p c V C F[j];rw[ZRU hj] at j2;generalize ZEg c (unP V C F[j])=O at *;by_cases q:okP c V C F[j]=true
      ·rw[q,Bool.true_and] at j2;obtain⟨o1,o2⟩:=hok.1 q;rw[o1,o2] at c6;((repeat' (first|((first|apply WL.opN|apply WD.opN);exact yF;dsimp only[ZC,z0,z1])|refine WL.nil ?_|refine WD.nil ?_|refine ZA fun Kx hK=>?_|(refine hK _ _ ?_;clear hK)|refine WC.region ?_|(apply WC.draw;kernel_rfl;kernel_rfl)|((first|apply ZF|apply WD.op);(focus (first|exact wN|(apply SYG.yes;(exact wY);((first|(refine ZFP (R:=ZM) (_gR:=inferInstance) ZB9 hj rfl (OpD.t rfl) (OpD.t rfl))|(apply SY.load;exact ZQw;exact OpD.t rfl)|(exact ZDO (OpD.t rfl))|(apply SY.call (c5) Tryz.call93;(exact aD))|(apply SY.call (c6) Tryz.call92;(exact aD))|((first|apply SY.move|apply SY.assign|apply SY.lss|apply SY.neq|apply SY.not) <;> (exact oD))|((first|apply SY.add) <;> first|exact oD|omega)|(apply ZY;(exact oD);(with_reducible rfl);(exact oD))|(apply SY.extract;(exact oD);rfl)|fail);all_goals infer_instance))));dsimp only[ZC,z0,z1])|((first|refine ZK rfl rfl rfl (fun h=>?_) (fun h=>?_)|refine ZJ rfl rfl rfl (fun h=>?_) (fun h=>?_)|refine ZI rfl rfl rfl (fun h=>?_) (fun h=>?_)|refine ZW rfl rfl rfl (fun h=>?_) (fun h=>?_)|refine ZU rfl rfl rfl (fun h=>?_) (fun h=>?_)|refine ZS rfl rfl rfl (fun h=>?_) (fun h=>?_)) <;> (first|(exfalso;first|omega|contradiction)|(dsimp only[z0,z1])))|(apply ZQ;(exact oD);(with_reducible rfl))|(apply ZB;(exact oD);all_goals (intro h;try exact xD))|refine WC.skip ?_|refine WC.block ?_|refine ThenD.n ?_));all_goals (first|((repeat clear hK);(repeat clear Kx))))
       all_goals try (exfalso;omega)
       (refine zNx (j+1) ?_;(try dsimp only))
       exact⟨by omega,j2⟩
      ·have q0:okP c V C F[j]=false:=by simpa using q
       rw[q0,Bool.false_and] at j2;have hE:ZDo (okP c V C) c F V C=22:=by rw[hend,if_neg (by rw[j2];decide)]
       rw[hE];have hno:=mt hok.2 q;clear hok;((repeat' (first|((first|apply WL.opN|apply WD.opN);exact yF;dsimp only[ZC,z0,z1])|refine WL.nil ?_|refine WD.nil ?_|refine ZA fun Kx hK=>?_|(refine hK _ _ ?_;clear hK)|refine WC.region ?_|(apply WC.draw;kernel_rfl;kernel_rfl)|((first|apply ZF|apply WD.op);(focus (first|exact wN|(apply SYG.yes;(exact wY);((first|(refine ZFP (R:=ZM) (_gR:=inferInstance) ZB9 hj rfl (OpD.t rfl) (OpD.t rfl))|(apply SY.load;exact ZQw;exact OpD.t rfl)|(apply SY.call (c5) Tryz.call93;(exact aD))|(apply SY.call (c6) Tryz.call92;(exact aD))|((first|apply SY.move|apply SY.assign|apply SY.lss|apply SY.neq|apply SY.not) <;> (exact oD))|((first|apply SY.add) <;> first|exact oD|omega)|(apply ZZ;(exact oD);(with_reducible rfl);(exact oD))|(apply ZY;(exact oD);(with_reducible rfl);(exact oD))|(apply SY.extract;(exact oD);rfl)|fail);all_goals infer_instance))));dsimp only[ZC,z0,z1])|((first|refine ZK rfl rfl rfl (fun h=>?_) (fun h=>?_)|refine ZJ rfl rfl rfl (fun h=>?_) (fun h=>?_)|refine ZI rfl rfl rfl (fun h=>?_) (fun h=>?_)|refine ZW rfl rfl rfl (fun h=>?_) (fun h=>?_)|refine ZU rfl rfl rfl (fun h=>?_) (fun h=>?_)|refine ZS rfl rfl rfl (fun h=>?_) (fun h=>?_)) <;> (first|(exfalso;first|omega|contradiction)|(dsimp only[z0,z1])))|(apply Zc;(exact oD);(with_reducible rfl))|(apply ZB;(exact oD);all_goals (intro h;try exact xD))|(apply ZO;(exact oD);all_goals (intro h;try exact xD))|refine WC.skip ?_|refine WC.ret ?_|refine WC.block ?_|refine ThenD.n ?_|refine ThenD.r ?_|refine InBlockD.r ?_));all_goals (first|((repeat clear hK);(repeat clear Kx))))
       all_goals first|((refine⟨trivial,_,rfl,?_⟩;exact fD);done)|(exfalso;exact hno ⟨by omega,by simp_all⟩)
     ·rw[List.drop_of_length_le (by omega)] at j2;have hE:ZDo (okP c V C) c F V C=0:=by rw[hend,if_pos (by rw[j2];rfl)]
      ((repeat' (first|((first|apply WL.opN|apply WD.opN);exact yF;dsimp only[ZC,z0,z1])|refine WL.nil ?_|refine ZA fun Kx hK=>?_|(refine hK _ _ ?_;clear hK)|(refine Kont.skip ?_;clear hK)|refine WC.region ?_|((first|apply ZF|apply WD.op);(focus (first|exact wN|(apply SYG.yes;(exact wY);((first|((first|apply SY.move|apply SY.assign|apply SY.lss|apply SY.neq|apply SY.not) <;> (exact oD))|fail);all_goals infer_instance))));dsimp only[ZC,z0,z1])|(apply ZB;(exact oD);all_goals (intro h;try exact xD))|refine WC.ret ?_|refine WC.exit ?_));all_goals (first|((repeat clear hK);(repeat clear Kx))))
      all_goals try (exfalso;omega)
      (refine⟨trivial,_,rfl,?_⟩;refine FinD.i ?_)
      exact hE.symm
 ·rw[show ZDo (okP c V C) c F V C=15 by unfold ZDo;rw[if_neg h1,if_neg h2,if_pos h3]];((repeat' (first|((first|apply WL.opN|apply WD.opN);exact yF;dsimp only[ZC,z0,z1])|refine WL.nil ?_|refine ZA fun Kx hK=>?_|(refine hK _ _ ?_;clear hK)|refine WC.region ?_|((first|apply ZF|apply WD.op);(focus (first|exact wN|(apply SYG.yes;(exact wY);((first|(exact SY.box (OpD.t rfl) ZCC)|(exact ZV ZJK (OpD.t rfl) ZFx rfl rfl)|(exact ZBA tyC (OpD.t rfl))|(apply SY.call (c1) Tryz.call43;(exact aD))|(apply SY.call (c2) Tryz.call91;(exact aD))|(apply SY.call (c3) Tryz.call36;(exact aD))|((first|apply SY.move|apply SY.assign|apply SY.lss|apply SY.neq|apply SY.not) <;> (exact oD))|(apply SY.load;(exact tD);(exact oD))|(apply SY.len;(exact oD);(exact nD);(exact uD))|(apply ZZ;(exact oD);(with_reducible rfl);(exact oD))|(apply ZY;(exact oD);(with_reducible rfl);(exact oD))|(apply SY.extract;(exact oD);rfl)|(apply SY.box;(exact oD);(exact hD))|fail);all_goals infer_instance))));dsimp only[ZC,z0,z1])|((first|refine ZK rfl rfl rfl (fun h=>?_) (fun h=>?_)|refine ZJ rfl rfl rfl (fun h=>?_) (fun h=>?_)|refine ZI rfl rfl rfl (fun h=>?_) (fun h=>?_)|refine ZW rfl rfl rfl (fun h=>?_) (fun h=>?_)|refine ZU rfl rfl rfl (fun h=>?_) (fun h=>?_)|refine ZS rfl rfl rfl (fun h=>?_) (fun h=>?_)) <;> (first|(exfalso;first|omega|contradiction)|(dsimp only[z0,z1])))|(apply Zc;(exact oD);(with_reducible rfl))|(apply ZG;(exact oD);all_goals (intro h;try exact xD))|refine WC.skip ?_|refine WC.ret ?_|refine WC.block ?_|refine ThenD.r ?_));all_goals (first|refine WC.id ?_|((repeat clear hK);(repeat clear Kx))))
  all_goals first|((refine⟨trivial,_,rfl,?_⟩;exact fD);done)|(exfalso;exact h3 ⟨Eq.symm (by assumption),by omega⟩)
theorem ZTe (c F:Cx) (V:List Vx) (C:Cx) (hF:F.length≤100) (hC:C.length≤100):Fn Tryz.prog 51 [dS Cpx c,dS ZUs (F,V,C)] (dI (ZDo (okP c V C) c F V C)):=ZTd c F V C (fun h0=>by have:=ZIg (ZAY.1 h0).short;omega) hC
end
section
open Go.RowKit
def tabN:String := "internal/strconv.uint64pow10"
def LaidIn (P:Nat->Prop) (w:World):Prop:=∃g,Tryz.prog.globalNamed tabN=some g/\P g/\Lib.TabIs Tryz.prog w tabN .u64 Lib.pow10Tab
theorem ZCO {P P':Nat->Prop} {w:World} (h:LaidIn P w) (q:∀k,P k->P' k):LaidIn P' w:=let ⟨g,h1,h2,h3⟩:=h;⟨g,h1,q g h2,h3⟩
theorem ZTC {g:Nat} {w:World} (h1:Tryz.prog.globalNamed tabN=some g) (h:Lib.TabIs Tryz.prog w tabN .u64 Lib.pow10Tab):g<w.heap.size:=by
 unfold Lib.TabIs World.var? at h;rw[h1,Option.bind_some] at h;rcases Nat.lt_or_ge g w.heap.size with q|q
 ·exact q
 ·rw[Array.getElem?_eq_none q] at h;cases h
theorem ZDt {P:Nat->Prop} {w w':World} (h:LaidIn P w) (q:∀k,P k->k<w.heap.size->w'.heap[k]?=w.heap[k]?):LaidIn P w':=by
 obtain⟨g,h1,h2,h3⟩:=h;refine⟨g,h1,h2,?_⟩;have e:=q g h2 (ZTC h1 h3);unfold Lib.TabIs World.var? at h3 ⊢;rw[h1,Option.bind_some] at h3 ⊢;rw[e];exact h3
theorem ZEG {P:Nat->Prop} {w:World} (h:LaidIn P w):LaidIn (fun k=>P k/\k<w.heap.size) w:=let ⟨g,h1,h2,h3⟩:=h;⟨g,h1,⟨h2,ZTC h1 h3⟩,h3⟩
def RLS (S:Prop) {α:Type} (R:Rel α):Rel α:=fun P w v x=>R P w v x/\(LaidIn P w\/S)
instance {S:Prop} {α:Type} (R:Rel α) [Good R]:Good (RLS S R) where
 weak:=fun h q=>⟨Good.weak h.1 q,h.2.imp_left fun k=>ZCO k q⟩
 move:=fun h q=>⟨Good.move h.1 q,h.2.imp_left fun k=>ZDt k q⟩
 bound:=fun h=>⟨Good.bound h.1,h.2.imp_left fun k=>ZEG k⟩
abbrev ZCx (S:Prop):Rel (List Vx):=ArrK 2 (RLS S RV)
abbrev ZA5 (S:Prop):Rel (List (List Vx)):=Arr (ZCx S)
abbrev ZSi (S:Prop):Rel (List (List Vx)):=R1 (ZA5 S)
variable {S:Prop}
theorem ZJr {α:Type} {n:Nat} {R S:Rel α} (h:∀P w v x,R P w v x->S P w v x) {P:Nat->Prop} {w:World} {v:Value} {xs:List α} (k:ArrK n R P w v xs):ArrK n S P w v xs:=by
 obtain⟨a,cap,hv,h1,h2,h0,h3⟩:=k;refine⟨a,cap,hv,h1,h2,h0,fun k hk=>?_⟩;obtain⟨u,b,off,r1,r⟩:=h3 k hk;exact⟨u,b,off,h _ _ _ _ r1,r⟩
theorem ZMA {α:Type} {R S:Rel α} (h:∀P w v x,R P w v x->S P w v x) {P:Nat->Prop} {w:World} {v:Value} {xs:List α} (k:Arr R P w v xs):Arr S P w v xs:=by
 obtain⟨a,cap,hv,h1,h2,h3⟩:=k;refine⟨a,cap,hv,h1,h2,fun k hk=>?_⟩;obtain⟨u,b,off,r1,r⟩:=h3 k hk;exact⟨u,b,off,h _ _ _ _ r1,r⟩
theorem ZNV {s:List Vx}:(dS (ZCx S) s).le (dS ZM s):=fun _ _ _ h=>ZJr (fun _ _ _ _ q=>q.1) h
theorem vl_v {P:Nat->Prop} {w:World} {v:Value} {s:List Vx} (h:ZCx S P w v s):ZM P w v s:=ZJr (fun _ _ _ _ q=>q.1) h
theorem ZCW {l:Cx}:(dS (ZSi S) l).le (dS Cpx l):=fun _ _ _ h=>by
 obtain⟨u,h1,h2,h3⟩:=h;exact⟨u,h1,h2,ZMA (R:=ZCx S) (S:=ZM) (fun _ _ _ _ q=>vl_v q) h3⟩
theorem ZMT {s:List Vx} (hs:s≠[]) {P:Nat->Prop} {w:World} {v:Value} (h:(dS (ZCx S) s).rd P w v):LaidIn P w\/S:=by
 obtain⟨a,cap,hv,h1,h2,h0,h3⟩:=(h:ZCx S P w v s);obtain⟨u,b,off,r1,_⟩:=h3 0 (List.length_pos_iff.2 hs);exact r1.2
theorem ZSw {s:List Vx} {P:Nat->Prop} {w:World} {v:Value} (h:(dS ZM s).rd P w v) (q:LaidIn P w\/S):(dS (ZCx S) s).rd P w v:=by
 obtain⟨a,cap,hv,h1,h2,h0,h3⟩:=(h:ZM P w v s);refine⟨a,cap,hv,h1,h2,h0,fun k hk=>?_⟩;obtain⟨u,b,off,r1,r⟩:=h3 k hk;exact⟨u,b,off,⟨r1,q⟩,r⟩
theorem ZFn {l:Cx} (q:S):(dS Cpx l).le (dS (ZSi S) l):=fun _ _ _ h=>by
 obtain⟨u,h1,h2,h3⟩:=h;exact⟨u,h1,h2,ZMA (R:=ZM) (S:=ZCx S) (fun _ _ _ _ k=>ZSw k (.inr q)) h3⟩

theorem ZPH:∀(k u:Nat),u<10 ^ (k+1)->(Lib.decDigits u).length≤k+1
 | 0,u,h=>by rw[Lib.decDigits_one (by omega)];simp
 | k+1,u,h=>by
  by_cases h1:u<10
  ·rw[Lib.decDigits_one h1];simp
  ·rw[Lib.decDigits,dif_neg h1,List.length_append];have:=ZPH k (u / 10) (by rw[Nat.pow_succ] at h;omega);simp only[List.length_cons,List.length_nil];omega
theorem ZE1 (n:Int) (h:0≤n/\n≤1048576):(Lib.itoa n).length≤21:=by
 obtain⟨m,rfl⟩:=Int.eq_ofNat_of_zero_le h.1;rw[Lib.itoa_nonneg];have:=ZPH 20 m (by omega);omega
def okL (v:Vx):Prop:=(0≤v.1/\v.1≤1048576)/\0≤v.2/\v.2≤1048576
theorem ZSW {v:Vx} (h:okL v):(txV v).length≤100:=by
 have e0:=ZE1 v.1 h.1;have e1:=ZE1 v.2 h.2;unfold txV;simp only[List.length_append,List.length_cons,List.length_nil];omega
theorem ZJL:∀ {s:List Vx},(∀v∈s,okL v)->(txS s).length≤100*s.length
 | [],_=>by simp[txS]
 | v::s,h=>by
  have h1:=ZSW (h v (by simp));have h2:=ZJL (s:=s) fun u hu=>h u (by simp[hu]);have:txS (v::s)=txV v++txS s:=rfl;rw[this,List.length_append,List.length_cons];omega
end
end Go.Proofs.YtofkoleingbbpaaGreatDoor
