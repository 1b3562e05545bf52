/- Part 43: walks by contracts, and plain laws. -/
import Derived.Test.YtokmalofdapffaaGreatV42
set_option linter.unusedVariables false
set_option linter.unusedSimpArgs false
set_option linter.unusedSectionVars false
set_option maxRecDepth 100000
set_option maxHeartbeats 4000000
namespace Go.Proofs.YtokmalofdapffaaGreat
section
open Go.RowKit

theorem ZKo {l:Cx} (G:GoodX l) {x:Cl} (hx:PairOk l x) (hw:Zz l 8≤4098):(ZAC l x).length≤4096:=(ZBf G hx hw).1
set_option maxHeartbeats 8000000 in
theorem ZLA (l:Cx) (x:Cl) (hw:ZA8 l=0->Zz l 8≤4098):Fn Tryz.prog 13 [dS Cpx l,dS Col x] (dT [dS Cpx (ZDF l x).1,dI (ZDF l x).2]):=by
 (refine ZCS tyC Tryz.func13 rfl rfl ?_;simp only [Tryz.ntmps13,List.length_cons,List.length_nil,Nat.reduceAdd,Nat.reduceSub,List.replicate_succ,List.replicate_zero,List.cons_append,List.nil_append])
 have c0:=ZBR l
 have c1:=ZJZ x.1
 have c2:=ZJZ x.2
 by_cases h0:ZA8 l=0
 ·by_cases h1:ZAL x.1=0
  ·by_cases h2:ZAL x.2=0
   ·have G:=Zr.1 h0
    have c3:=ZSw l G x
    by_cases h3:x∈Zq l
    ·rw [decide_eq_true h3] at c3
     have hx:=ZBU G h3
     have h4:=ZKo G hx (hw h0)
     have c4:=ZIO l G x hx h4
     have e:ZDF l x=(ZAC l x,0):=by unfold ZDF;rw [if_neg (by omega),if_neg (by omega),if_neg (by omega),if_neg (by simpa using h3),if_neg (by omega)]
     rw [e]
     generalize ZAC l x=L at *
     ((repeat' (first|(apply WL.opN;exact yF;dsimp only [ZB,z0,z1])|refine WL.nil ?_|refine ZA fun Kx hK=>?_|(refine hK _ _ ?_;clear hK)|refine WC.region ?_|(apply WL.alloc;(first|exact tzV|exact tzC);(first|exact ZZ rfl|exact Zw|exact Ze rfl);(intro _;dsimp only [ZB,z0,z1]))|(apply ZI;(exact tD);rfl;(exact oD);(exact hD);dsimp only [ZB,z0,z1])|(apply WL.opN;(focus ((first|(apply SY.call (c0) Tryz.call18;(exact aD))|(apply SY.call (c1) Tryz.call25;exact ArgsD.cons (OpD.t rfl) (ArgsD.nil))|(apply SY.call (c2) Tryz.call25;exact ArgsD.cons (OpD.t rfl) (ArgsD.nil))|(apply SY.call (c3) Tryz.call26;(exact aD))|(apply SY.call (c4) Tryz.call22;(exact aD))|((first|apply SY.move|apply SY.assign|apply SY.neq|apply SY.not) <;> (exact oD))|(apply Zc ZBj;exact OpD.t rfl)|(apply Zm ZBj;exact OpD.t rfl)|(apply SY.extract;(exact oD);rfl)|(apply SY.box;(exact oD);(exact hD))|fail);all_goals infer_instance));dsimp only [ZB,z0,z1])|(apply WC.condN;(exact oD);all_goals (intro h;try exact xD))|(apply WC.condNB;(exact oD);all_goals (intro h;try exact xD))|refine WC.skip ?_|refine WC.ret ?_));all_goals (first|((repeat clear hK);(repeat clear Kx))))
     all_goals first|(exfalso;omega)|(refine ⟨trivial,⟨_,rfl,?_⟩,_,rfl,?_⟩ <;> exact fD)
    ·rw [decide_eq_false h3] at c3
     have e:ZDF l x=([],6):=by unfold ZDF;rw [if_neg (by omega),if_neg (by omega),if_neg (by omega),if_pos h3]
     rw [e]
     ((repeat' (first|(apply WL.opN;exact yF;dsimp only [ZB,z0,z1])|refine WL.nil ?_|refine ZA fun Kx hK=>?_|(refine hK _ _ ?_;clear hK)|refine WC.region ?_|(apply WL.alloc;(first|exact tzV|exact tzC);(first|exact ZZ rfl|exact Zw|exact Ze rfl);(intro _;dsimp only [ZB,z0,z1]))|(apply ZI;(exact tD);rfl;(exact oD);(exact hD);dsimp only [ZB,z0,z1])|(apply WL.opN;(focus ((first|(apply SY.call (c0) Tryz.call18;(exact aD))|(apply SY.call (c1) Tryz.call25;exact ArgsD.cons (OpD.t rfl) (ArgsD.nil))|(apply SY.call (c2) Tryz.call25;exact ArgsD.cons (OpD.t rfl) (ArgsD.nil))|(apply SY.call (c3) Tryz.call26;(exact aD))|((first|apply SY.move|apply SY.assign|apply SY.neq|apply SY.not) <;> (exact oD))|exact ZAm ZA9|(apply Zc ZBj;exact OpD.t rfl)|(apply Zm ZBj;exact OpD.t rfl)|(apply SY.box;(exact oD);(exact hD))|fail);all_goals infer_instance));dsimp only [ZB,z0,z1])|(apply WC.condN;(exact oD);all_goals (intro h;try exact xD))|(apply WC.condNB;(exact oD);all_goals (intro h;try exact xD))|refine WC.skip ?_|refine WC.ret ?_|refine ThenD.r ?_));all_goals (first|((repeat clear hK);(repeat clear Kx))))
     all_goals first|(exfalso;omega)|(refine ⟨trivial,⟨_,rfl,?_⟩,_,rfl,?_⟩ <;> exact fD)
   ·have e:ZDF l x=([],ZAL x.2):=by unfold ZDF;rw [if_neg (by omega),if_neg (by omega),if_pos h2]
    rw [e]
    ((repeat' (first|(apply WL.opN;exact yF;dsimp only [ZB,z0,z1])|refine WL.nil ?_|refine ZA fun Kx hK=>?_|(refine hK _ _ ?_;clear hK)|refine WC.region ?_|(apply WL.alloc;(first|exact tzV|exact tzC);(first|exact ZZ rfl|exact Zw|exact Ze rfl);(intro _;dsimp only [ZB,z0,z1]))|(apply ZI;(exact tD);rfl;(exact oD);(exact hD);dsimp only [ZB,z0,z1])|(apply WL.opN;(focus ((first|(apply SY.call (c0) Tryz.call18;(exact aD))|(apply SY.call (c1) Tryz.call25;exact ArgsD.cons (OpD.t rfl) (ArgsD.nil))|(apply SY.call (c2) Tryz.call25;exact ArgsD.cons (OpD.t rfl) (ArgsD.nil))|((first|apply SY.move|apply SY.assign|apply SY.neq|apply SY.not) <;> (exact oD))|exact ZAm ZA9|(apply Zc ZBj;exact OpD.t rfl)|(apply Zm ZBj;exact OpD.t rfl)|(apply SY.box;(exact oD);(exact hD))|fail);all_goals infer_instance));dsimp only [ZB,z0,z1])|(apply WC.condN;(exact oD);all_goals (intro h;try exact xD))|refine WC.skip ?_|refine WC.ret ?_|refine ThenD.r ?_));all_goals (first|((repeat clear hK);(repeat clear Kx))))
    all_goals first|(exfalso;omega)|(refine ⟨trivial,⟨_,rfl,?_⟩,_,rfl,?_⟩ <;> exact fD)
  ·have e:ZDF l x=([],ZAL x.1):=by unfold ZDF;rw [if_neg (by omega),if_pos h1]
   rw [e]
   ((repeat' (first|(apply WL.opN;exact yF;dsimp only [ZB,z0,z1])|refine WL.nil ?_|refine ZA fun Kx hK=>?_|(refine hK _ _ ?_;clear hK)|refine WC.region ?_|(apply WL.alloc;(first|exact tzV|exact tzC);(first|exact ZZ rfl|exact Zw|exact Ze rfl);(intro _;dsimp only [ZB,z0,z1]))|(apply ZI;(exact tD);rfl;(exact oD);(exact hD);dsimp only [ZB,z0,z1])|(apply WL.opN;(focus ((first|(apply SY.call (c0) Tryz.call18;(exact aD))|(apply SY.call (c1) Tryz.call25;exact ArgsD.cons (OpD.t rfl) (ArgsD.nil))|((first|apply SY.move|apply SY.assign|apply SY.neq|apply SY.not) <;> (exact oD))|exact ZAm ZA9|(apply Zc ZBj;exact OpD.t rfl)|(apply Zm ZBj;exact OpD.t rfl)|(apply SY.box;(exact oD);(exact hD))|fail);all_goals infer_instance));dsimp only [ZB,z0,z1])|(apply WC.condN;(exact oD);all_goals (intro h;try exact xD))|refine WC.skip ?_|refine WC.ret ?_|refine ThenD.r ?_));all_goals (first|((repeat clear hK);(repeat clear Kx))))
   all_goals first|(exfalso;omega)|(refine ⟨trivial,⟨_,rfl,?_⟩,_,rfl,?_⟩ <;> exact fD)
 ·have e:ZDF l x=([],ZA8 l):=by unfold ZDF;rw [if_pos h0]
  rw [e]
  ((repeat' (first|(apply WL.opN;exact yF;dsimp only [ZB,z0,z1])|refine WL.nil ?_|refine ZA fun Kx hK=>?_|(refine hK _ _ ?_;clear hK)|refine WC.region ?_|(apply WL.alloc;(first|exact tzV|exact tzC);(first|exact ZZ rfl|exact Zw|exact Ze rfl);(intro _;dsimp only [ZB,z0,z1]))|(apply ZI;(exact tD);rfl;(exact oD);(exact hD);dsimp only [ZB,z0,z1])|(apply WL.opN;(focus ((first|(apply SY.call (c0) Tryz.call18;(exact aD))|((first|apply SY.move|apply SY.assign|apply SY.neq|apply SY.not) <;> (exact oD))|exact ZAm ZA9|(apply SY.box;(exact oD);(exact hD))|fail);all_goals infer_instance));dsimp only [ZB,z0,z1])|(apply WC.condN;(exact oD);all_goals (intro h;try exact xD))|refine WC.ret ?_|refine ThenD.r ?_));all_goals (first|((repeat clear hK);(repeat clear Kx))))
  all_goals first|(exfalso;omega)|(refine ⟨trivial,⟨_,rfl,?_⟩,_,rfl,?_⟩ <;> exact fD)
theorem ZR3 {l:Cx} (G:GoodX l):ofP l=(l,0):=by
 unfold ofP
 rw [if_neg (by have:=G.1;omega),ZNL G.2.2.1,if_neg (by omega),ZQB G]
end
section
open Go.RowKit

set_option maxHeartbeats 16000000 in
theorem ZLn (l:Cx):Fn Tryz.prog 7 [dS Cpx l] (dT [dS Cpx (ZOA l).1,dS Cols (ZOA l).2.1,dI (ZOA l).2.2]):=by
 (refine ZLI tyC Tryz.func7 rfl rfl ?_;simp only [Tryz.ntmps7,List.length_cons,List.length_nil,Nat.reduceAdd,Nat.reduceSub,List.replicate_succ,List.replicate_zero,List.cons_append,List.nil_append])
 have c0:=ZBR l
 by_cases h0:ZA8 l=0
 ·have G:=Zr.1 h0
  have c1:=ZJo l h0
  by_cases hw:4096<Zz l 8
  ·have e:ZOA l=([],[],17):=by unfold ZOA;rw [if_neg (by omega),if_pos hw]
   rw [e]
   rw [decide_eq_true hw] at c1
   ((repeat' (first|((first|apply WL.opN|apply WD.opN);exact yF;dsimp only [ZB,z0,z1])|refine WL.nil ?_|refine ZA fun Kx hK=>?_|(refine hK _ _ ?_;clear hK)|refine WC.region ?_|(apply WL.alloc;(first|exact tzV|exact tzC);(first|exact ZZ rfl|exact Zw|exact Ze rfl);(intro _;dsimp only [ZB,z0,z1]))|(apply ZI;(exact tD);rfl;(exact oD);(exact hD);dsimp only [ZB,z0,z1])|((first|apply WL.opN|apply WD.opN);(focus ((first|(apply SY.call (c0) Tryz.call18;(exact aD))|(apply SY.call (c1) Tryz.call19;(exact aD))|((first|apply SY.move|apply SY.assign|apply SY.eql|apply SY.neq) <;> (exact oD))|exact ZAm ZA9|(apply SY.box;(exact oD);(exact hD))|fail);all_goals infer_instance));dsimp only [ZB,z0,z1])|(apply Z0;(exact oD);(with_reducible rfl))|(apply WC.condN;(exact oD);all_goals (intro h;try exact xD))|refine WC.skip ?_|refine WC.ret ?_|refine ThenD.r ?_));all_goals (first|((repeat clear hK);(repeat clear Kx))))
   all_goals first|(exfalso;omega)|(refine ⟨trivial,⟨_,rfl,?_⟩,⟨_,rfl,?_⟩,_,rfl,?_⟩ <;> exact fD)
  ·have e:ZOA l=((ZAV l).1,(ZAV l).2,0):=by unfold ZOA;rw [if_neg (by omega),if_neg hw]
   have c2:=ZS5 l
   rw [ZR3 G] at c2
   rw [e]
   rw [decide_eq_false hw] at c1
   have hR:ZAV l=ZJN 4096 l:=rfl
   generalize ZAV l=R at *
   (repeat' (first|((first|apply WL.opN|apply WD.opN);exact yF;dsimp only [ZB,z0,z1])|refine WL.nil ?_|refine ZA fun Kx hK=>?_|(refine hK _ _ ?_;clear hK)|refine WC.region ?_ |  (refine WL.alloc tzC (Ze rfl) fun b2=>?_;dsimp only [ZB,z0,z1]) |  (apply ZAf tyC;exact OpD.t rfl;exact OpD.t rfl;exact ZAT;dsimp only [ZB,z0,z1])|((first|apply WL.opN|apply WD.opN);(focus ((first|(apply SY.call (c0) Tryz.call18;(exact aD))|(apply SY.call (c1) Tryz.call19;(exact aD))|(apply SY.call (c2) Tryz.call20;(exact aD))|((first|apply SY.move|apply SY.assign|apply SY.eql|apply SY.neq) <;> (exact oD))|(apply ZAd ZA9;exact OpD.t rfl)|(apply SY.extract;(exact oD);rfl)|(apply SY.box;(exact oD);(exact hD))|fail);all_goals infer_instance));dsimp only [ZB,z0,z1])|(apply Za;(exact oD);(with_reducible rfl))|(apply WC.condN;(exact oD);all_goals (intro h;try exact xD))|refine WC.skip ?_|refine WC.block ?_))
   all_goals first|(exfalso;omega)|skip
   rename Nat=>b6
   refine ZEN 43 2 (by decide) Col ?_
   (refine ZH (X:=Nat × Cx × List Cl × Value) (fun x=>[(8,dX x.2.2.2),(3,dA),(4,dA),(9,dA),(10,dA),(11,dA),(27,dA),(28,dA),(29,dA),(30,dA),(31,dA),(32,dA),(33,dA),(34,dA),(35,dA),(36,dA),(37,dA),(38,dA),(39,dA),(40,dA),(41,dA),(42,dA),(43,dA),(44,dA),(45,dA),(46,dA),(47,dA),(48,dA),(49,dA),(50,dA),(51,dA),(52,dA)]) (fun x=>[Zg x.2.2.2 43 2 Col x.2.2.1,ZO b6 24 1 true (dS Cpx x.2.1),ZO b2 24 1 true (dX (.agg #[.slice none 0 0]))]) (fun x=>x.1) (fun x=>GoodX x.2.1/\Zz x.2.1 8≤x.1/\x.1≤4096/\x.2.2.1.length≤4096-x.1/\R=((ZJN x.1 x.2.1).1,x.2.2.1++(ZJN x.1 x.2.1).2)) (4096,l,[],.slice none 0 0) ?start ?frame0 ?objs0 ?round)
   case start=>exact ⟨G,by show Zz l 8≤4096;omega,Nat.le_refl _,Nat.zero_le _,hR⟩
   case frame0=>((try dsimp only [ZQ,z0,z1]);repeat (first|exact LeF.nil|refine ZD (k:=?_)))
   case objs0=>rfl
   case round =>
    rintro ⟨n,cur,out,v⟩ ⟨k1,k2,k3,k4,k5⟩
    simp only at k1 k2 k3 k4 k5
    dsimp only [ZQ,z0,z1]
    have c3:=ZGf cur k1
    cases hL:Zq cur with
    | nil =>
     rw [hL] at c3
     rw [ZHg hL,List.append_nil] at k5
     subst k5
     ((repeat' (first|((first|apply WL.opN|apply WD.opN);exact yF;dsimp only [ZB,z0,z1])|refine WL.nil ?_|refine ZA fun Kx hK=>?_|(refine hK _ _ ?_;clear hK)|refine WC.region ?_|(apply ZAe;(exact tD);rfl;(exact oD);(exact hD);dsimp only [ZB,z0,z1])|(apply ZAZ;(exact tD);rfl;(exact oD);(exact hD);dsimp only [ZB,z0,z1])|((first|apply WL.opN|apply WD.opN);(focus ((first|(apply SY.call (c3) Tryz.call21;(exact aD))|(apply Zd tyC;exact OpD.t rfl;exact .tail _ (.head _))|((first|apply SY.move|apply SY.assign|apply SY.eql|apply SY.neq) <;> (exact oD))|(apply SY.len;(exact oD);(exact nD);(exact uD))|fail);all_goals infer_instance));dsimp only [ZB,z0,z1])|(apply WC.condD;(exact oD);all_goals (intro h;try exact xD))|refine WC.ret ?_|refine WC.block ?_|refine ThenD.r ?_|refine InBlockD.r ?_));all_goals (first|((repeat clear hK);(repeat clear Kx))))
     all_goals first|(exfalso;omega)|skip
     (refine ⟨trivial,⟨_,rfl,?_⟩,⟨_,rfl,?_⟩,_,rfl,?_⟩ <;> exact fD)
    | cons x t =>
     have hx:=ZBU k1 (show x∈Zq cur by rw [hL];exact List.mem_cons_self ..)
     rw [hL] at c3
     have h2:=ZCG k1 hx
     have G2:=ZBf k1 hx (by omega)
     have c4:=ZIO cur k1 x hx G2.1
     obtain ⟨n,rfl⟩:∃ m,n=m+1:=⟨n-1,by omega⟩
     rw [ZFu hL] at k5
     have hlen:(x::t).length=t.length+1:=rfl
     have hpos:0<(x::t).length:=Nat.succ_pos _
     have h48:(out.length+[x].length)*48≤140737488355328:=by rw [List.length_singleton];omega
     ((repeat' (first |  (refine WC.drawM (fun hp'=>ZO b6 24 1 true (dS Cpx cur)∈hp') 10 1 [(0,false),(1,false),(2,false),(3,false),(4,false),(5,false),(6,false),(7,false),(8,true),(9,true)] [true,true,true,true,true,true,true,true,true,true,false] (by kernel_rfl) (by kernel_rfl) (by kernel_rfl) rfl (.tail _ (.head _)) ?_) |  (first|refine WA.one (S:=[true,true,true,true,true,true,true,true,true,true,false]) (i:=10) (by kernel_rfl) rfl ?_|refine WA.nil (S:=[true,true,true,true,true,true,true,true,true,true,true]) (by kernel_rfl) ?_) |  (refine WC.drawM (fun _=>True) 7 2 [(0,false),(1,false),(2,false),(3,false),(4,false),(5,false),(6,true)] [true,true,true,true,true,true,true,false,false] (by kernel_rfl) (by kernel_rfl) (by kernel_rfl) rfl (trivial) ?_) |  (first|refine WA.one (S:=[true,true,true,true,true,true,true,false,false]) (i:=7) (by kernel_rfl) rfl ?_|refine WA.one (S:=[true,true,true,true,true,true,true,true,false]) (i:=8) (by kernel_rfl) rfl ?_|refine WA.nil (S:=[true,true,true,true,true,true,true,true,true]) (by kernel_rfl) ?_) |  (refine ZAx rfl (SW.alloc tzC (Ze rfl)) (fun _=>.tail _ (.tail _ (.head _))) fun b10=>?_;dsimp only [ZB,z0,z1,List.cons_append,List.nil_append]) |  (refine ZAx rfl (ZCT tyC (OpD.t rfl) (OpD.t rfl) ZAT) (fun _=>.tail _ (.tail _ (.head _))) fun _=>?_;dsimp only [ZB,z0,z1,List.cons_append,List.nil_append]) |  (refine ZGG (t:=10) rfl ?_;dsimp only [z0,z1]) |  (refine ZAx rfl (SW.appK ZKU (OpD.t rfl) (OpD.t rfl) (by decide) h48) (fun _=>trivial) fun v'=>?_;dsimp only [ZB,z0,z1,List.cons_append,List.nil_append])|(refine WM.nil ?_)|(apply WM.readL rfl;(focus (intro c hcc;apply SYG.yes;(exact ZP rfl);((first|(apply SY.call (c3) Tryz.call21;(exact aD))|(apply SY.call (c4) Tryz.call22;(exact aD))|(apply Zd tyC;exact OpD.t rfl;(first|exact hcc|exact .tail _ (.head _)))|(refine ZA5 (R:=Col) (_gR:=inferInstance) (k:=0) ZKU (OpD.t rfl) OpD.i hpos)|((first|apply SY.move|apply SY.assign|apply SY.eql|apply SY.neq) <;> (exact oD))|(apply SY.load;(exact tD);(exact oD))|(apply SY.buildE;(exact eD);((try simp only [List.map_cons,List.map_nil]);(repeat (first|exact Zu|(apply Zt;(first|exact OpD.t rfl|exact OpD.i|exact OpD.b|exact OpD.tle rfl (by first|exact ZE|exact ZC (by decide))|exact ⟨ZE⟩|exact ⟨ZC (by decide)⟩)))));rfl;rfl;decide;(intro _;exact Zy);(exact (by simp)))|(apply SY.extract;(exact oD);rfl)|fail);all_goals infer_instance)));dsimp only [ZB,z0,z1])|((first|apply WL.opN|apply WD.opN);exact yF;dsimp only [ZB,z0,z1])|refine WL.nil ?_|refine ZA fun Kx hK=>?_|(refine hK _ _ ?_;clear hK)|refine WC.region ?_ |  (refine WL.perm (List.Perm.swap _ _ _) ?_;apply ZAf tyC;exact OpD.t rfl;exact OpD.t rfl;exact ZAT;refine WL.perm (List.Perm.swap _ _ _) ?_;dsimp only [ZB,z0,z1])|((first|apply WL.opN|apply WD.opN);(focus ((first|(apply SY.call (c3) Tryz.call21;(exact aD))|(apply SY.call (c4) Tryz.call22;(exact aD))|(apply Zd tyC;exact OpD.t rfl;(first|exact hcc|exact .tail _ (.head _)))|((first|apply SY.move|apply SY.assign|apply SY.eql|apply SY.neq) <;> (exact oD))|(apply SY.len;(exact oD);(exact nD);(exact uD))|fail);all_goals infer_instance));dsimp only [ZB,z0,z1])|(apply WC.condD;(exact oD);all_goals (intro h;try exact xD))|(apply WC.condN;(exact oD);all_goals (intro h;try exact xD))|refine WC.skip ?_|refine WC.block ?_|refine ThenD.n ?_|refine InBlockD.n ?_));all_goals (first|((repeat clear hK);(repeat clear Kx))))
     all_goals first|(exfalso;omega)|skip
     rename_i v'
     (refine ⟨(n,ZAC cur x,out++[x],v'),?_,by first|omega|(simp only;omega),rfl,?_⟩;rotate_left;((try dsimp only [ZQ,z0,z1]);repeat (first|exact LeF.nil|refine ZD (k:=?_)));(try dsimp only))
     refine ⟨G2,by show Zz (ZAC cur x) 8≤n;omega,by show n≤4096;omega,by show (out++[x]).length≤4096-n;rw [List.length_append,List.length_singleton];omega,?_⟩
     rw [k5]
     show (_,out++x::_)=(_,(out++[x])++_)
     rw [List.append_assoc];rfl
 ·have e:ZOA l=([],[],ZA8 l):=by unfold ZOA;rw [if_pos h0]
  rw [e]
  ((repeat' (first|((first|apply WL.opN|apply WD.opN);exact yF;dsimp only [ZB,z0,z1])|refine WL.nil ?_|refine ZA fun Kx hK=>?_|(refine hK _ _ ?_;clear hK)|refine WC.region ?_|(apply WL.alloc;(first|exact tzV|exact tzC);(first|exact ZZ rfl|exact Zw|exact Ze rfl);(intro _;dsimp only [ZB,z0,z1]))|(apply ZI;(exact tD);rfl;(exact oD);(exact hD);dsimp only [ZB,z0,z1])|((first|apply WL.opN|apply WD.opN);(focus ((first|(apply SY.call (c0) Tryz.call18;(exact aD))|((first|apply SY.move|apply SY.assign|apply SY.eql|apply SY.neq) <;> (exact oD))|exact ZAm ZA9|(apply SY.box;(exact oD);(exact hD))|fail);all_goals infer_instance));dsimp only [ZB,z0,z1])|(apply WC.condN;(exact oD);all_goals (intro h;try exact xD))|refine WC.ret ?_|refine ThenD.r ?_));all_goals (first|((repeat clear hK);(repeat clear Kx))))
  all_goals first|(exfalso;omega)|(refine ⟨trivial,⟨_,rfl,?_⟩,⟨_,rfl,?_⟩,_,rfl,?_⟩ <;> exact fD)
end
section
open Go.RowKit

theorem ZOR {l:Cx} (G:GoodX l) {x:Cl} (hx:x∈Zq l) (hw:Zz l 8≤4098):ZDF l x=(ZAC l x,0):=by
 have hp:=ZBU G hx
 unfold ZDF
 rw [if_neg (by rw [Zr.2 G];omega),if_neg (by rw [hp.chk1];omega),if_neg (by rw [hp.chk2];omega),if_neg (by simpa using hx),if_neg (by have:=ZKo G hp hw;omega)]
theorem ZQf {l:Cx} (G:GoodX l) {x:Cl} (hx:x∉Zq l):(ZDF l x).2≠0:=by
 unfold ZDF
 rw [if_neg (by rw [Zr.2 G];omega)]
 split
 ·assumption
 ·split
  ·assumption
  ·first|decide|(rw [if_pos hx];decide)
set_option maxHeartbeats 16000000 in
theorem ZLy (l:Cx) (m:List Cl) (d:Cx) (hw:ZA8 l=0->Zz l 8≤4098):Fn Tryz.prog 12 [dS Cpx l,dS Cols m,dS Cpx d] (dI (ZOZ l m d)):=by
 (refine ZG Tryz.func12 rfl rfl ?_;simp only [Tryz.ntmps12,List.length_cons,List.length_nil,Nat.reduceAdd,Nat.reduceSub,List.replicate_succ,List.replicate_zero,List.cons_append,List.nil_append])
 have c0:=ZBR l
 have c1:=ZBR d
 by_cases h0:ZA8 l=0
 ·by_cases h1:ZA8 d=0
  ·by_cases h2:4096<m.length
   ·have e:ZOZ l m d=5:=by unfold ZOZ;rw [if_neg (by omega),if_neg (by omega),if_pos h2]
    rw [e]
    ((repeat' (first|(apply WL.opN;exact yF;dsimp only [ZB,z0,z1])|refine WL.nil ?_|refine ZA fun Kx hK=>?_|(refine hK _ _ ?_;clear hK)|refine WC.region ?_|(apply WL.opN;(focus ((first|(apply SY.call (c0) Tryz.call18;exact ArgsD.cons (OpD.t rfl) (ArgsD.nil))|(apply SY.call (c1) Tryz.call18;exact ArgsD.cons (OpD.t rfl) (ArgsD.nil))|((first|apply SY.move|apply SY.assign|apply SY.lss|apply SY.gtr|apply SY.neq|apply SY.not) <;> (exact oD))|(apply SY.len;(exact oD);(exact nD);(exact uD))|(apply SY.box;(exact oD);(exact hD))|fail);all_goals infer_instance));dsimp only [ZB,z0,z1])|(apply WC.condD;(exact oD);all_goals (intro h;try exact xD))|(apply WC.condN;(exact oD);all_goals (intro h;try exact xD))|refine WC.skip ?_|refine WC.ret ?_|refine ThenD.r ?_));all_goals (first|((repeat clear hK);(repeat clear Kx))))
    all_goals first|(exfalso;omega)|(refine ⟨trivial,_,rfl,?_⟩;exact fD)
   ·have e:ZOZ l m d=if ZBP l m=some d then 0 else 18:=by unfold ZOZ;rw [if_neg (by omega),if_neg (by omega),if_neg h2]
    rw [e]
    (repeat' (first|(apply WL.opN;exact yF;dsimp only [ZB,z0,z1])|refine WL.nil ?_|refine ZA fun Kx hK=>?_|(refine hK _ _ ?_;clear hK)|refine WC.region ?_ |  (refine ZGy (x:=Operand.tmp 0) (OpD.t rfl) ZAT fun b3=>?_;dsimp only [ZB,z0,z1])|(apply WL.opN;(focus ((first|(apply SY.call (c0) Tryz.call18;exact ArgsD.cons (OpD.t rfl) (ArgsD.nil))|(apply SY.call (c1) Tryz.call18;exact ArgsD.cons (OpD.t rfl) (ArgsD.nil))|(apply Zd tyC;exact OpD.t rfl;exact .head _)|((first|apply SY.move|apply SY.assign|apply SY.lss|apply SY.gtr|apply SY.neq|apply SY.not) <;> (exact oD))|(apply SY.len;(exact oD);(exact nD);(exact uD))|(apply SY.box;(exact oD);(exact hD))|fail);all_goals infer_instance));dsimp only [ZB,z0,z1])|(apply WC.condD;(exact oD);all_goals (intro h;try exact xD))|(apply WC.condN;(exact oD);all_goals (intro h;try exact xD))|refine WC.skip ?_|refine WC.block ?_))
    all_goals first|(exfalso;omega)|skip
    (refine ZH (X:=Nat × Cx) (fun x=>[(28,dI (x.1:Int)),(6,dA),(10,dA),(11,dA),(12,dA),(29,dA),(30,dA),(31,dA),(32,dA),(33,dA),(34,dA),(35,dA),(36,dA),(37,dA),(38,dA),(39,dA),(40,dA),(41,dA)]) (fun x=>[ZO b3 24 1 true (dS Cpx x.2)]) (fun x=>m.length-x.1) (fun x=>x.1≤m.length/\GoodX x.2/\Zz x.2 8≤4098/\ZBP l m=ZBP x.2 (m.drop x.1)) (0,l) ?start ?frame0 ?objs0 ?round)
    case start=>exact ⟨Nat.zero_le _,Zr.1 h0,hw h0,rfl⟩
    case frame0=>((try dsimp only [ZQ,z0,z1]);repeat (first|exact LeF.nil|refine ZD (k:=?_)))
    case objs0=>rfl
    case round =>
     rintro ⟨k,cur⟩ ⟨k1,k2,k3,k4⟩
     simp only at k1 k2 k3 k4
     dsimp only [ZQ,z0,z1]
     by_cases hk:k<m.length
     ·have c3:=ZLA cur m[k] fun _=>k3
      rw [List.drop_eq_getElem_cons hk] at k4
      by_cases hx:m[k]∈Zq cur
      ·rw [ZOR k2 hx k3] at c3
       have hp:=ZBU k2 hx
       have q1:=ZCG k2 hp
       have q2:=ZBf k2 hp (by omega)
       have k5:ZBP l m=ZBP (ZAC cur m[k]) (m.drop (k+1)):=by rw [k4];exact if_pos hx
       generalize ZAC cur m[k]=L at *
       ((repeat' (first|(apply WL.opN;exact yF;dsimp only [ZB,z0,z1])|refine WL.nil ?_|refine ZA fun Kx hK=>?_|(refine hK _ _ ?_;clear hK)|refine WC.region ?_ |  (apply WL.alloc ZTL;exact ZEI;(intro b10;dsimp only [ZB,z0,z1])) |  (refine ZI ZRF rfl (OpD.t rfl) Zy ?_;dsimp only [ZB,z0,z1]) |  (refine ZAf (t:=3) tyC (OpD.t rfl) (OpD.t rfl) ZAT ?_;dsimp only [ZB,z0,z1])|(apply WL.alloc;(first|exact tzV|exact tzC);(first|exact ZZ rfl|exact Zw|exact Ze rfl);(intro _;dsimp only [ZB,z0,z1]))|(apply ZI;(exact tD);rfl;(exact oD);(exact hD);dsimp only [ZB,z0,z1])|(apply WL.opN;(focus ((first|(apply SY.call (c3) Tryz.call13;(exact aD))|(apply Zd tyC;exact OpD.t rfl;exact .head _)|((first|apply SY.move|apply SY.assign|apply SY.lss|apply SY.gtr|apply SY.neq|apply SY.not) <;> (exact oD))|((first|apply SY.add) <;> first|exact oD|omega)|(apply ZA5;(exact eD);(exact oD);(exact oD);exact kD)|(apply SY.extract;(exact oD);rfl)|fail);all_goals infer_instance));dsimp only [ZB,z0,z1])|(apply WC.condD;(exact oD);all_goals (intro h;try exact xD))|(apply WC.condN;(exact oD);all_goals (intro h;try exact xD))|refine WC.skip ?_|refine WC.block ?_|refine ThenD.n ?_));all_goals (first|((repeat clear hK);(repeat clear Kx))))
       all_goals first|(exfalso;omega)|skip
       (refine ⟨(k+1,L),?_,by first|omega|(simp only;omega),rfl,?_⟩;rotate_left;((try dsimp only [ZQ,z0,z1]);repeat (first|exact LeF.nil|refine ZD (k:=?_)));(try dsimp only))
       exact ⟨by show k+1≤_;omega,q2,by show Zz L 8≤_;omega,k5⟩
      ·have hs:=ZQf k2 hx
       generalize ZDF cur m[k]=S at *
       have k5:ZBP l m=none:=by rw [k4];exact if_neg hx
       rw [k5]
       ((repeat' (first|(apply WL.opN;exact yF;dsimp only [ZB,z0,z1])|refine WL.nil ?_|refine ZA fun Kx hK=>?_|(refine hK _ _ ?_;clear hK)|refine WC.region ?_ |  (apply WL.alloc ZTL;exact ZEI;(intro b10;dsimp only [ZB,z0,z1])) |  (refine ZI ZRF rfl (OpD.t rfl) Zy ?_;dsimp only [ZB,z0,z1])|(apply WL.alloc;(first|exact tzV|exact tzC);(first|exact ZZ rfl|exact Zw|exact Ze rfl);(intro _;dsimp only [ZB,z0,z1]))|(apply ZI;(exact tD);rfl;(exact oD);(exact hD);dsimp only [ZB,z0,z1])|(apply WL.opN;(focus ((first|(apply SY.call (c3) Tryz.call13;(exact aD))|(apply Zd tyC;exact OpD.t rfl;exact .head _)|((first|apply SY.move|apply SY.assign|apply SY.lss|apply SY.gtr|apply SY.neq|apply SY.not) <;> (exact oD))|(apply ZA5;(exact eD);(exact oD);(exact oD);exact kD)|(apply SY.extract;(exact oD);rfl)|fail);all_goals infer_instance));dsimp only [ZB,z0,z1])|(apply WC.condD;(exact oD);all_goals (intro h;try exact xD))|(apply WC.condN;(exact oD);all_goals (intro h;try exact xD))|refine WC.skip ?_|refine WC.ret ?_|refine WC.block ?_|refine ThenD.r ?_|refine InBlockD.r ?_));all_goals (first|((repeat clear hK);(repeat clear Kx))))
       all_goals first|(exfalso;omega)|((refine ⟨trivial,_,rfl,?_⟩;exact fD))
     ·rw [List.drop_eq_nil_of_le (by omega)] at k4
      have c5:=ZQY cur d
      by_cases he:cur=d
      ·rw [decide_eq_true he] at c5
       ((repeat' (first|(apply WL.opN;exact yF;dsimp only [ZB,z0,z1])|refine WL.nil ?_|refine ZA fun Kx hK=>?_|(refine hK _ _ ?_;clear hK)|(refine Kont.skip ?_;clear hK)|refine WC.region ?_|(apply WL.opN;(focus ((first|(apply SY.call (c5) Tryz.call24;(exact aD))|(apply Zd tyC;exact OpD.t rfl;exact .head _)|((first|apply SY.move|apply SY.assign|apply SY.lss|apply SY.gtr|apply SY.neq|apply SY.not) <;> (exact oD))|fail);all_goals infer_instance));dsimp only [ZB,z0,z1])|(apply WC.condD;(exact oD);all_goals (intro h;try exact xD))|(apply WC.condNB;(exact oD);all_goals (intro h;try exact xD))|refine WC.skip ?_|refine WC.ret ?_|refine WC.exit ?_));all_goals (first|((repeat clear hK);(repeat clear Kx))))
       all_goals first|(exfalso;omega)|skip
       (refine ⟨trivial,_,rfl,?_⟩;refine FinD.i ?_)
       rw [k4,show ZBP cur []=some cur from rfl,if_pos (by rw [he])]
      ·rw [decide_eq_false he] at c5
       ((repeat' (first|(apply WL.opN;exact yF;dsimp only [ZB,z0,z1])|refine WL.nil ?_|refine ZA fun Kx hK=>?_|(refine hK _ _ ?_;clear hK)|(refine Kont.skip ?_;clear hK)|refine WC.region ?_|(apply WL.opN;(focus ((first|(apply SY.call (c5) Tryz.call24;(exact aD))|(apply Zd tyC;exact OpD.t rfl;exact .head _)|((first|apply SY.move|apply SY.assign|apply SY.lss|apply SY.gtr|apply SY.neq|apply SY.not) <;> (exact oD))|fail);all_goals infer_instance));dsimp only [ZB,z0,z1])|(apply WC.condD;(exact oD);all_goals (intro h;try exact xD))|(apply WC.condNB;(exact oD);all_goals (intro h;try exact xD))|refine WC.ret ?_|refine WC.exit ?_|refine ThenD.r ?_));all_goals (first|((repeat clear hK);(repeat clear Kx))))
       all_goals first|(exfalso;omega)|skip
       (refine ⟨trivial,_,rfl,?_⟩;refine FinD.i ?_)
       rw [k4,show ZBP cur []=some cur from rfl,if_neg (fun q=>he (Option.some.inj q))]
  ·have e:ZOZ l m d=ZA8 d:=by unfold ZOZ;rw [if_neg (by omega),if_pos h1]
   rw [e]
   ((repeat' (first|(apply WL.opN;exact yF;dsimp only [ZB,z0,z1])|refine WL.nil ?_|refine ZA fun Kx hK=>?_|(refine hK _ _ ?_;clear hK)|refine WC.region ?_|(apply WL.opN;(focus ((first|(apply SY.call (c0) Tryz.call18;exact ArgsD.cons (OpD.t rfl) (ArgsD.nil))|(apply SY.call (c1) Tryz.call18;exact ArgsD.cons (OpD.t rfl) (ArgsD.nil))|((first|apply SY.move|apply SY.assign|apply SY.lss|apply SY.gtr|apply SY.neq|apply SY.not) <;> (exact oD))|(apply SY.box;(exact oD);(exact hD))|fail);all_goals infer_instance));dsimp only [ZB,z0,z1])|(apply WC.condN;(exact oD);all_goals (intro h;try exact xD))|refine WC.skip ?_|refine WC.ret ?_|refine ThenD.r ?_));all_goals (first|((repeat clear hK);(repeat clear Kx))))
   all_goals first|(exfalso;omega)|(refine ⟨trivial,_,rfl,?_⟩;exact fD)
 ·have e:ZOZ l m d=ZA8 l:=by unfold ZOZ;rw [if_pos h0]
  rw [e]
  ((repeat' (first|(apply WL.opN;exact yF;dsimp only [ZB,z0,z1])|refine WL.nil ?_|refine ZA fun Kx hK=>?_|(refine hK _ _ ?_;clear hK)|refine WC.region ?_|(apply WL.opN;(focus ((first|(apply SY.call (c0) Tryz.call18;exact ArgsD.cons (OpD.t rfl) (ArgsD.nil))|((first|apply SY.move|apply SY.assign|apply SY.lss|apply SY.gtr|apply SY.neq|apply SY.not) <;> (exact oD))|(apply SY.box;(exact oD);(exact hD))|fail);all_goals infer_instance));dsimp only [ZB,z0,z1])|(apply WC.condN;(exact oD);all_goals (intro h;try exact xD))|refine WC.ret ?_|refine ThenD.r ?_));all_goals (first|((repeat clear hK);(repeat clear Kx))))
  all_goals first|(exfalso;omega)|(refine ⟨trivial,_,rfl,?_⟩;exact fD)
end
end Go.Proofs.YtokmalofdapffaaGreat
