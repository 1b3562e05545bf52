/- Part 40: walks by contracts, and plain laws. -/
import Derived.Test.YtokmalofdapffaaGreatV39
set_option linter.unusedVariables false
set_option linter.unusedSimpArgs false
set_option linter.unusedSectionVars false
set_option maxRecDepth 100000
set_option maxHeartbeats 4000000
namespace Go.Proofs.YtokmalofdapffaaGreat
section
open Go.RowKit

def inN (l:Cx) (s:List Vx) (j:Nat):List Cl:=if s.length=1 then [] else (((List.range s.length).drop j).filter fun i=>decide ((lookM (ZF4 l) (ZAv s i)).getD 0=1)).map fun i=>(ZAv s i,s)
theorem ZPz (l:Cx) (s:List Vx):inN l s 0=ZEw l s:=rfl
theorem ZRl {l:Cx} {s:List Vx} (h:s.length=1) (j:Nat):inN l s j=[]:=if_pos h
theorem ZRk {l:Cx} {s:List Vx} {j:Nat} (h:s.length≤j):inN l s j=[]:=by
 unfold inN
 split
 ·rfl
 ·rw [List.drop_eq_nil_of_le (by rw [List.length_range];exact h)];rfl
theorem ZPy {l:Cx} {s:List Vx} {j:Nat} (h:j<s.length) (h1:s.length≠1):inN l s j=(if (lookM (ZF4 l) (ZAv s j)).getD 0=1 then [(ZAv s j,s)] else [])++inN l s (j+1):=by
 unfold inN
 rw [if_neg h1,if_neg h1,List.drop_eq_getElem_cons (by rw [List.length_range];exact h),List.getElem_range]
 by_cases hc:(lookM (ZF4 l) (ZAv s j)).getD 0=1
 ·rw [if_pos hc,List.filter_cons_of_pos (by simpa using hc)];rfl
 ·rw [if_neg hc,List.filter_cons_of_neg (by simpa using hc)];rfl
theorem ZSe {l:Cx} (G:GoodX l):∀ p∈ZF4 l,okK p.1:=fun p hp=>by
 have h:=ZBz.2 (List.mem_map_of_mem (f:=(·.1)) hp)
 rw [ZIb] at h
 by_cases hx:p.1∈ZBu l
 ·obtain ⟨s,hs,ht⟩:=List.mem_flatMap.1 hx
  exact ZCZ (ZEB (G.2.2.1 s hs) _ ht)
 ·rw [if_neg hx] at h;cases h
theorem ZOD {s:List Vx} (hs:ZAL s=0) {j:Nat} (hj:j<s.length) (h1:s.length≠1):ZAL (ZAv s j)=0 :=
 (ZAp hs (k:=s.length-1) (by omega) ((Z9 _ _ _).2 ⟨ZDY s j,ZDX hj⟩)).1
set_option maxHeartbeats 8000000 in
theorem ZNV (l:Cx) (G:GoodX l) (v1 v2:Value):SeqE Tryz.prog 72 [v1,v2] [ZAW v1 (dP 1 true (dS Cpx l)),ZAW v2 (dP 1 false (dS (ZH7 kvK RI) (ZF4 l)))] (fun x=>dS Col x) (ZCl l):=⟨fun lb J E hY js hj=>by
 (refine ZCy Tryz.func72 rfl rfl (fun hp=>?_);simp only [Tryz.ntmps72,List.length_cons,List.length_nil,List.length_append,List.length_map,Nat.reduceAdd,Nat.reduceSub,List.replicate_succ,List.replicate_zero,List.cons_append,List.nil_append,List.map_cons,List.map_nil,List.append_assoc])
 refine ZFT (d:=dP 1 true (dS Cpx l)) 1 rfl (List.mem_append_right _ (.head _)) ?_
 refine ZFT (d:=dP 1 false (dS (ZH7 kvK RI) (ZF4 l))) 2 rfl (List.mem_append_right _ (.tail _ (.head _))) ?_
 dsimp only [z0,z1]
 obtain ⟨hq,hhq⟩:∃ hq,hq=ZAW v1 (dP 1 true (dS Cpx l))::ZAW v2 (dP 1 false (dS (ZH7 kvK RI) (ZF4 l)))::hp:=⟨_,rfl⟩
 rw [<- hhq]
 have hnd:=ZM6 l
 have hok:=ZSe G
 have hll:=G.1
 (repeat' (first|((first|apply WL.opN|apply WD.opN);exact yF;dsimp only [ZB,z0,z1])|refine WL.nil ?_|refine ZA fun Kx hK=>?_|(refine hK _ _ ?_;clear hK)|refine WC.region ?_|((first|apply ZF|apply WD.op);(focus (first|exact wN|(apply SYG.yes;(exact wY);((first|(apply SY.len;(exact oD);(exact nD);(exact uD))|(apply ZAd ZA9;exact OpD.t rfl)|fail);all_goals infer_instance))));dsimp only [ZB,z0,z1])|refine WC.block ?_))
 (refine ZH (X:=Nat × List Cl × List HObj) (fun x=>[(11,dI (x.1:Int)),(5,dA),(6,dA),(7,dA),(12,dA),(13,dA),(14,dA),(15,dA),(16,dA),(17,dA),(18,dA),(19,dA),(20,dA),(21,dA),(22,dA),(23,dA),(24,dA),(25,dA),(26,dA),(27,dA),(28,dA),(29,dA),(30,dA),(31,dA),(32,dA),(33,dA),(34,dA),(35,dA),(36,dA),(37,dA),(38,dA),(39,dA),(40,dA),(41,dA)]) (fun x=>(x.2.2++hq)) (fun x=>l.length-x.1) (fun x=>x.1≤l.length/\J x.2.1 x.2.2/\x.2.1++(l.drop x.1).flatMap (ZEw l)=ZCl l) (0,[],js) ?start ?frame0 ?objs0 ?round)
 case start=>exact ⟨Nat.zero_le _,hj,rfl⟩
 case frame0=>((try dsimp only [ZQ,z0,z1]);repeat (first|exact LeF.nil|refine ZD (k:=?_)))
 case objs0=>rfl
 case round =>
  rintro ⟨i,dn,js1⟩ ⟨q1,q2,q3⟩
  simp only at q1 q2 q3
  dsimp only [ZQ,z0,z1]
  by_cases hi:i<l.length
  ·have hgi:=G.2.2.1 _ (List.getElem_mem hi)
   obtain ⟨p1,p2⟩:=Zf hgi
   rw [List.drop_eq_getElem_cons hi,List.flatMap_cons] at q3
   (repeat' (first|((first|apply WL.opN|apply WD.opN);exact yF;dsimp only [ZB,z0,z1])|refine WL.nil ?_|refine ZA fun Kx hK=>?_|(refine hK _ _ ?_;clear hK)|refine WC.region ?_|((first|apply ZF|apply WD.op);(focus (first|exact wN|(apply SYG.yes;(exact wY);((first|((first|apply SY.move|apply SY.assign|apply SY.lss|apply SY.eql|apply SY.not) <;> (exact oD))|(apply SY.len;(exact oD);(exact nD);(exact uD))|(apply SY.ix;(exact eD);(exact oD);(exact oD);exact kD)|fail);all_goals infer_instance))));dsimp only [ZB,z0,z1])|(apply WC.condD;(exact oD);all_goals (intro h;try exact xD))|refine WC.skip ?_|refine WC.block ?_))
   (refine ZH (X:=Nat × List Cl × List HObj) (fun y=>[(17,dI (y.1:Int)),(6,dA),(7,dA),(18,dA),(19,dA),(20,dA),(21,dA),(22,dA),(23,dA),(24,dA),(25,dA),(26,dA),(27,dA),(28,dA),(29,dA),(30,dA),(31,dA),(32,dA),(33,dA),(34,dA),(35,dA),(36,dA),(37,dA),(38,dA),(39,dA),(40,dA)]) (fun y=>(y.2.2++hq)) (fun y=>l[i].length-y.1) (fun y=>y.1≤l[i].length/\J y.2.1 y.2.2/\y.2.1++(inN l l[i] y.1++(l.drop (i+1)).flatMap (ZEw l))=ZCl l) (0,dn,js1) ?start ?frame0 ?objs0 ?round)
   case start=>exact ⟨Nat.zero_le _,q2,by rw [ZPz];exact q3⟩
   case frame0=>((try dsimp only [ZQ,z0,z1]);repeat (first|exact LeF.nil|refine ZD (k:=?_)))
   case objs0=>rfl
   case round =>
    rintro ⟨j,dm,js2⟩ ⟨r1,r2,r3⟩
    simp only at r1 r2 r3
    dsimp only [ZQ,z0,z1]
    by_cases hj':j<l[i].length
    ·by_cases h1:l[i].length=1
     ·((repeat' (first|((first|apply WL.opN|apply WD.opN);exact yF;dsimp only [ZB,z0,z1])|refine WL.nil ?_|refine ZA fun Kx hK=>?_|(refine hK _ _ ?_;clear hK)|(refine Kont.skip ?_;clear hK)|refine WC.region ?_|((first|apply ZF|apply WD.op);(focus (first|exact wN|(apply SYG.yes;(exact wY);((first|((first|apply SY.move|apply SY.assign|apply SY.lss|apply SY.eql|apply SY.not) <;> (exact oD))|((first|apply SY.add) <;> first|exact oD|omega)|(apply SY.len;(exact oD);(exact nD);(exact uD))|fail);all_goals infer_instance))));dsimp only [ZB,z0,z1])|(apply WC.condD;(exact oD);all_goals (intro h;try exact xD))|refine WC.skip ?_|refine WC.exit ?_|refine WC.block ?_|refine ThenD.n ?_));all_goals (first|((repeat clear hK);(repeat clear Kx))))
      all_goals first|(exfalso;omega)|skip
      (refine ⟨(j+1,dm,js2),?_,by first|omega|(simp only;omega),rfl,?_⟩;rotate_left;((try dsimp only [ZQ,z0,z1]);repeat (first|exact LeF.nil|refine ZD (k:=?_)));(try dsimp only))
      exact ⟨by show j+1≤_;omega,r2,by rw [ZRl h1] at r3 ⊢;exact r3⟩
     ·have hck:=ZOD hgi hj' h1
      have c1:=ZDt l[i] j hj' (by omega)
      have c2:=ZNp (ZAv l[i] j) (Zf hck).2
      have c3:=ZE9 l[i] (by omega)
      have hkk:=ZCZ hck
      rw [ZPy hj' h1] at r3
      by_cases hc:(lookM (ZF4 l) (ZAv l[i] j)).getD 0=1
      ·rw [if_pos hc] at r3
       have hlk:=fun (ops:Array Oper) (hp:List HObj) (fr:List Dat) (dst:Option Tmp) (ty:TypeId) (ps:String) (af:Array Edge) (g:Option (Nat × Bool)) (x y:Operand) (hx:OpD fr x (dS (ZH7 kvK RI) (ZF4 l))) (hy:OpD fr y (dX (kvK (ZAv l[i] j))))=>ZDw (ops:=ops) (hp:=hp) (dst:=dst) (ty:=ty) (ps:=ps) (af:=af) (g:=g) (a0:=(0:Int)) ZB7 ZDq hx hy isX hkk hok hnd (fun _ _=>rfl)
       rw [hc] at hlk
       have hlen:dm.length<(ZCl l).length:=by rw [<- r3];simp only [List.length_append,List.length_cons];omega
       ((repeat' (first |  (apply I.WC.drawTail 11;kernel_rfl;kernel_rfl;simp only [List.take_succ_cons,List.take_zero,List.drop_succ_cons,List.drop_zero])|(refine WRd.nil ?_)|(apply WRd.readL rfl;(focus (intro c hcc;apply SYG.yes;(exact ZP rfl);((first|(apply SY.call (c1) Tryz.call45;(exact aD))|(apply SY.load;exact ZJD;exact OpD.t rfl)|(apply SY.call (c2) Tryz.call73;(exact aD))|(apply SY.call (c3) Tryz.call44;(exact aD))|(refine hlk _ _ _ _ _ _ _ _ _ _ (OpD.t rfl) (OpD.t rfl))|((first|apply SY.move|apply SY.assign|apply SY.lss|apply SY.eql|apply SY.not) <;> (exact oD))|((first|apply SY.add) <;> first|exact oD|omega)|(apply SY.load;(exact tD);(exact oD))|(apply SY.len;(exact oD);(exact nD);(exact uD))|(apply SY.lenRK;exact OpD.t rfl;(first|exact .head _|exact .tail _ (.head _));(exact uD))|(apply ZBQ;exact OpD.t rfl;(first|exact .head _|exact .tail _ (.head _));(exact uD))|(apply ZA5;(exact eD);(exact oD);(exact oD);exact kD)|(apply SY.ix;(exact eD);(exact oD);(exact oD);exact kD)|(first|(apply SY.fld0 vxT <;> (exact oD))|(apply SY.fld1 vxT <;> (exact oD))|(apply ZBB vxT <;> (exact oD))|(apply SY.mkV1 vxT <;> (exact oD))|(apply SY.mkV vxT <;> (exact oD))|(apply ZCz vxT <;> (exact oD)))|(apply ZAd ZA9;exact OpD.t rfl)|exact ZAm ZA9|(apply ZCV ZA9;exact OpD.t rfl)|(apply Zc ZBj;exact OpD.t rfl)|(apply Zm ZBj;exact OpD.t rfl)|(apply ZCr ZBj <;> exact OpD.t rfl)|(apply SY.eqlB;(exact oD);(exact oD);exact eqBB)|(apply ZAu;(exact OpD.t rfl);(exact aD))|(apply Zn;(exact oD);(with_reducible rfl);(exact oD))|(apply Zj;(exact oD);(with_reducible rfl);(exact oD))|fail);all_goals infer_instance)));dsimp only [ZB,z0,z1])|((first|apply WL.opN|apply WD.opN);exact yF;dsimp only [ZB,z0,z1])|refine WL.nil ?_|refine WD.nil ?_|refine ZA fun Kx hK=>?_|(refine hK _ _ ?_;clear hK)|(refine Kont.skip ?_;clear hK)|refine WC.region ?_|(apply WC.draw;kernel_rfl;kernel_rfl) |  (refine I.ZIL (pre:=dm) (y:=(ZAv l[i] j,l[i])) rfl rfl hY hlen r2 (OpD.t rfl) (OpD.t rfl) fun b js3 hj3=>?_;dsimp only [ZB,z0,z1];refine I.ZF (.inl ⟨ZBb rfl rfl rfl rfl,SY.not (OpD.t rfl)⟩) ?_;dsimp only [ZB,z0,z1];refine I.WL.op rfl (Zn (OpD.t rfl) rfl (OpD.t rfl)) ?_;dsimp only [ZB,z0,z1];refine I.WL.nil ?_;cases b <;> simp only [Bool.not_true,Bool.not_false] at hj3 ⊢)|((first|apply ZF|apply WD.op);(focus (first|exact wN|(apply SYG.yes;(exact wY);((first|(apply SY.call (c1) Tryz.call45;(exact aD))|(apply SY.load;exact ZJD;exact OpD.t rfl)|(apply SY.call (c2) Tryz.call73;(exact aD))|(apply SY.call (c3) Tryz.call44;(exact aD))|(refine hlk _ _ _ _ _ _ _ _ _ _ (OpD.t rfl) (OpD.t rfl))|((first|apply SY.move|apply SY.assign|apply SY.lss|apply SY.eql|apply SY.not) <;> (exact oD))|((first|apply SY.add) <;> first|exact oD|omega)|(apply SY.len;(exact oD);(exact nD);(exact uD))|(apply ZCr ZBj <;> exact OpD.t rfl)|fail);all_goals infer_instance))));dsimp only [ZB,z0,z1])|((first|refine ZM rfl rfl rfl (fun h=>?_) (fun h=>?_)|refine ZL rfl rfl rfl (fun h=>?_) (fun h=>?_)|refine ZK rfl rfl rfl (fun h=>?_) (fun h=>?_)|refine Zp rfl rfl rfl (fun h=>?_) (fun h=>?_)|refine Zo rfl rfl rfl (fun h=>?_) (fun h=>?_)|refine Zl rfl rfl rfl (fun h=>?_) (fun h=>?_)) <;> (first|(exfalso;first|omega|contradiction)|(dsimp only [z0,z1])))|(apply Z0;(exact oD);(with_reducible rfl))|(apply Za;(exact oD);(with_reducible rfl))|(apply WC.condD;(exact oD);all_goals (intro h;try exact xD))|(apply WC.condN;(exact oD);all_goals (intro h;try exact xD))|(apply WC.condNB;(exact oD);all_goals (intro h;try exact xD))|(apply WC.cond;(exact oD);all_goals (intro h;try exact xD))|refine WC.skip ?_|refine WC.ret ?_|refine WC.exit ?_|refine WC.block ?_|refine ThenD.n ?_|refine ThenD.r ?_|refine ThenD.x ?_|refine InBlockD.x ?_|refine InBlockD.n ?_|refine InBlockD.r ?_|refine ZAQ (by decide) ?_));all_goals (first|refine WC.id ?_|refine WL.id ?_|((repeat clear hK);(repeat clear Kx))))
       ·refine ⟨trivial,js3++[_,_],by rw [hhq];simp,js3,.inr ⟨dm,(ZAv l[i] j,l[i]),inN l l[i] (j+1)++(l.drop (i+1)).flatMap (ZEw l),?_,by simpa using hj3⟩,rfl⟩
        exact r3.symm.trans (by simp)
       ·(refine ⟨(j+1,dm++[(ZAv l[i] j,l[i])],js3),?_,by first|omega|(simp only;omega),rfl,?_⟩;rotate_left;((try dsimp only [ZQ,z0,z1]);repeat (first|exact LeF.nil|refine ZD (k:=?_)));(try dsimp only))
        exact ⟨by show j+1≤_;omega,by simpa using hj3,r3.symm.symm ▸ (by simp)⟩
      ·rw [if_neg hc,List.nil_append] at r3
       have hlk:=fun (ops:Array Oper) (hp:List HObj) (fr:List Dat) (dst:Option Tmp) (ty:TypeId) (ps:String) (af:Array Edge) (g:Option (Nat × Bool)) (x y:Operand) (hx:OpD fr x (dS (ZH7 kvK RI) (ZF4 l))) (hy:OpD fr y (dX (kvK (ZAv l[i] j))))=>ZDw (ops:=ops) (hp:=hp) (dst:=dst) (ty:=ty) (ps:=ps) (af:=af) (g:=g) (a0:=(0:Int)) ZB7 ZDq hx hy isX hkk hok hnd (fun _ _=>rfl)
       generalize (lookM (ZF4 l) (ZAv l[i] j)).getD 0=n at *
       ((repeat' (first |  (apply I.WC.drawTail 11;kernel_rfl;kernel_rfl;simp only [List.take_succ_cons,List.take_zero,List.drop_succ_cons,List.drop_zero])|(refine WRd.nil ?_)|(apply WRd.readL rfl;(focus (intro c hcc;apply SYG.yes;(exact ZP rfl);((first|(apply SY.call (c1) Tryz.call45;(exact aD))|(apply SY.load;exact ZJD;exact OpD.t rfl)|(apply SY.call (c2) Tryz.call73;(exact aD))|(refine hlk _ _ _ _ _ _ _ _ _ _ (OpD.t rfl) (OpD.t rfl))|((first|apply SY.move|apply SY.assign|apply SY.lss|apply SY.eql|apply SY.not) <;> (exact oD))|((first|apply SY.add) <;> first|exact oD|omega)|(apply SY.load;(exact tD);(exact oD))|(apply SY.len;(exact oD);(exact nD);(exact uD))|(apply SY.lenRK;exact OpD.t rfl;(first|exact .head _|exact .tail _ (.head _));(exact uD))|(apply ZBQ;exact OpD.t rfl;(first|exact .head _|exact .tail _ (.head _));(exact uD))|(apply ZA5;(exact eD);(exact oD);(exact oD);exact kD)|(apply SY.ix;(exact eD);(exact oD);(exact oD);exact kD)|(first|(apply SY.fld0 vxT <;> (exact oD))|(apply SY.fld1 vxT <;> (exact oD))|(apply ZBB vxT <;> (exact oD))|(apply SY.mkV1 vxT <;> (exact oD))|(apply SY.mkV vxT <;> (exact oD))|(apply ZCz vxT <;> (exact oD)))|(apply ZAd ZA9;exact OpD.t rfl)|exact ZAm ZA9|(apply ZCV ZA9;exact OpD.t rfl)|(apply Zc ZBj;exact OpD.t rfl)|(apply Zm ZBj;exact OpD.t rfl)|(apply ZCr ZBj <;> exact OpD.t rfl)|(apply SY.eqlB;(exact oD);(exact oD);exact eqBB)|(apply ZAu;(exact OpD.t rfl);(exact aD))|(apply Zn;(exact oD);(with_reducible rfl);(exact oD))|(apply Zj;(exact oD);(with_reducible rfl);(exact oD))|fail);all_goals infer_instance)));dsimp only [ZB,z0,z1])|((first|apply WL.opN|apply WD.opN);exact yF;dsimp only [ZB,z0,z1])|refine WL.nil ?_|refine WD.nil ?_|refine ZA fun Kx hK=>?_|(refine hK _ _ ?_;clear hK)|(refine Kont.skip ?_;clear hK)|refine WC.region ?_|(apply WC.draw;kernel_rfl;kernel_rfl) |  (refine I.ZF (d:=dX undef) (.inr ⟨ZBK rfl rfl rfl rfl,rfl⟩) ?_;dsimp only [ZB,z0,z1]) |  (refine I.WL.op rfl (Zj (OpD.t rfl) rfl OpD.b) ?_;dsimp only [ZB,z0,z1];refine I.WL.nil ?_)|((first|apply ZF|apply WD.op);(focus (first|exact wN|(apply SYG.yes;(exact wY);((first|(apply SY.call (c1) Tryz.call45;(exact aD))|(apply SY.load;exact ZJD;exact OpD.t rfl)|(apply SY.call (c2) Tryz.call73;(exact aD))|(refine hlk _ _ _ _ _ _ _ _ _ _ (OpD.t rfl) (OpD.t rfl))|((first|apply SY.move|apply SY.assign|apply SY.lss|apply SY.eql|apply SY.not) <;> (exact oD))|((first|apply SY.add) <;> first|exact oD|omega)|(apply SY.load;(exact tD);(exact oD))|(apply SY.len;(exact oD);(exact nD);(exact uD))|(apply SY.lenRK;exact OpD.t rfl;(first|exact .head _|exact .tail _ (.head _));(exact uD))|(apply ZBQ;exact OpD.t rfl;(first|exact .head _|exact .tail _ (.head _));(exact uD))|(apply ZA5;(exact eD);(exact oD);(exact oD);exact kD)|(apply SY.ix;(exact eD);(exact oD);(exact oD);exact kD)|(first|(apply SY.fld0 vxT <;> (exact oD))|(apply SY.fld1 vxT <;> (exact oD))|(apply ZBB vxT <;> (exact oD))|(apply SY.mkV1 vxT <;> (exact oD))|(apply SY.mkV vxT <;> (exact oD))|(apply ZCz vxT <;> (exact oD)))|(apply ZAd ZA9;exact OpD.t rfl)|exact ZAm ZA9|(apply ZCV ZA9;exact OpD.t rfl)|(apply Zc ZBj;exact OpD.t rfl)|(apply Zm ZBj;exact OpD.t rfl)|(apply ZCr ZBj <;> exact OpD.t rfl)|(apply SY.eqlB;(exact oD);(exact oD);exact eqBB)|(apply ZAu;(exact OpD.t rfl);(exact aD))|(apply Zn;(exact oD);(with_reducible rfl);(exact oD))|(apply Zj;(exact oD);(with_reducible rfl);(exact oD))|fail);all_goals infer_instance))));dsimp only [ZB,z0,z1])|((first|refine ZM rfl rfl rfl (fun h=>?_) (fun h=>?_)|refine ZL rfl rfl rfl (fun h=>?_) (fun h=>?_)|refine ZK rfl rfl rfl (fun h=>?_) (fun h=>?_)|refine Zp rfl rfl rfl (fun h=>?_) (fun h=>?_)|refine Zo rfl rfl rfl (fun h=>?_) (fun h=>?_)|refine Zl rfl rfl rfl (fun h=>?_) (fun h=>?_)) <;> (first|(exfalso;first|omega|contradiction)|(dsimp only [z0,z1])))|(apply Z0;(exact oD);(with_reducible rfl))|(apply Za;(exact oD);(with_reducible rfl))|(apply WC.condD;(exact oD);all_goals (intro h;try exact xD))|(apply WC.condN;(exact oD);all_goals (intro h;try exact xD))|(apply WC.condNB;(exact oD);all_goals (intro h;try exact xD))|(apply WC.cond;(exact oD);all_goals (intro h;try exact xD))|refine WC.skip ?_|refine WC.ret ?_|refine WC.exit ?_|refine WC.block ?_|refine ThenD.n ?_|refine ThenD.r ?_|refine ThenD.x ?_|refine InBlockD.x ?_|refine InBlockD.n ?_|refine InBlockD.r ?_|refine ZAQ (by decide) ?_));all_goals (first|refine WC.id ?_|refine WL.id ?_|((repeat clear hK);(repeat clear Kx))))
       all_goals first|(exfalso;omega)|skip
       (refine ⟨(j+1,dm,js2),?_,by first|omega|(simp only;omega),rfl,?_⟩;rotate_left;((try dsimp only [ZQ,z0,z1]);repeat (first|exact LeF.nil|refine ZD (k:=?_)));(try dsimp only))
       exact ⟨by show j+1≤_;omega,r2,r3⟩
    ·rw [ZRk (by omega),List.nil_append] at r3
     ((repeat' (first|((first|apply WL.opN|apply WD.opN);exact yF;dsimp only [ZB,z0,z1])|refine WL.nil ?_|refine WD.nil ?_|refine ZA fun Kx hK=>?_|(refine hK _ _ ?_;clear hK)|(refine Kont.skip ?_;clear hK)|refine WC.region ?_|(apply WC.draw;kernel_rfl;kernel_rfl)|((first|apply ZF|apply WD.op);(focus (first|exact wN|(apply SYG.yes;(exact wY);((first|((first|apply SY.move|apply SY.assign|apply SY.lss|apply SY.eql|apply SY.not) <;> (exact oD))|((first|apply SY.add) <;> first|exact oD|omega)|(apply SY.load;(exact tD);(exact oD))|(apply SY.len;(exact oD);(exact nD);(exact uD))|(apply SY.lenRK;exact OpD.t rfl;(first|exact .head _|exact .tail _ (.head _));(exact uD))|(apply ZBQ;exact OpD.t rfl;(first|exact .head _|exact .tail _ (.head _));(exact uD))|(apply ZA5;(exact eD);(exact oD);(exact oD);exact kD)|(apply SY.ix;(exact eD);(exact oD);(exact oD);exact kD)|(first|(apply SY.fld0 vxT <;> (exact oD))|(apply SY.fld1 vxT <;> (exact oD))|(apply ZBB vxT <;> (exact oD))|(apply SY.mkV1 vxT <;> (exact oD))|(apply SY.mkV vxT <;> (exact oD))|(apply ZCz vxT <;> (exact oD)))|(apply ZAd ZA9;exact OpD.t rfl)|exact ZAm ZA9|(apply ZCV ZA9;exact OpD.t rfl)|(apply Zc ZBj;exact OpD.t rfl)|(apply Zm ZBj;exact OpD.t rfl)|(apply ZCr ZBj <;> exact OpD.t rfl)|(apply SY.eqlB;(exact oD);(exact oD);exact eqBB)|(apply ZAu;(exact OpD.t rfl);(exact aD))|(apply Zn;(exact oD);(with_reducible rfl);(exact oD))|(apply Zj;(exact oD);(with_reducible rfl);(exact oD))|fail);all_goals infer_instance))));dsimp only [ZB,z0,z1])|((first|refine ZM rfl rfl rfl (fun h=>?_) (fun h=>?_)|refine ZL rfl rfl rfl (fun h=>?_) (fun h=>?_)|refine ZK rfl rfl rfl (fun h=>?_) (fun h=>?_)|refine Zp rfl rfl rfl (fun h=>?_) (fun h=>?_)|refine Zo rfl rfl rfl (fun h=>?_) (fun h=>?_)|refine Zl rfl rfl rfl (fun h=>?_) (fun h=>?_)) <;> (first|(exfalso;first|omega|contradiction)|(dsimp only [z0,z1])))|(apply Z0;(exact oD);(with_reducible rfl))|(apply Za;(exact oD);(with_reducible rfl))|(apply WC.condD;(exact oD);all_goals (intro h;try exact xD))|(apply WC.condN;(exact oD);all_goals (intro h;try exact xD))|(apply WC.condNB;(exact oD);all_goals (intro h;try exact xD))|(apply WC.cond;(exact oD);all_goals (intro h;try exact xD))|refine WC.skip ?_|refine WC.ret ?_|refine WC.exit ?_|refine WC.block ?_|refine ThenD.n ?_|refine ThenD.r ?_|refine ThenD.x ?_|refine InBlockD.x ?_|refine InBlockD.n ?_|refine InBlockD.r ?_|refine ZAQ (by decide) ?_));all_goals (first|refine WC.id ?_|refine WL.id ?_|((repeat clear hK);(repeat clear Kx))))
     all_goals first|(exfalso;omega)|skip
     (refine ⟨(i+1,dm,js2),?_,by first|omega|(simp only;omega),rfl,?_⟩;rotate_left;((try dsimp only [ZQ,z0,z1]);repeat (first|exact LeF.nil|refine ZD (k:=?_)));(try dsimp only))
     exact ⟨by show i+1≤_;omega,r2,r3⟩
  ·rw [List.drop_eq_nil_of_le (by omega),List.flatMap_nil,List.append_nil] at q3
   subst q3
   ((repeat' (first|((first|apply WL.opN|apply WD.opN);exact yF;dsimp only [ZB,z0,z1])|refine WL.nil ?_|refine WD.nil ?_|refine ZA fun Kx hK=>?_|(refine hK _ _ ?_;clear hK)|(refine Kont.skip ?_;clear hK)|refine WC.region ?_|(apply WC.draw;kernel_rfl;kernel_rfl)|((first|apply ZF|apply WD.op);(focus (first|exact wN|(apply SYG.yes;(exact wY);((first|((first|apply SY.move|apply SY.assign|apply SY.lss|apply SY.eql|apply SY.not) <;> (exact oD))|((first|apply SY.add) <;> first|exact oD|omega)|(apply SY.load;(exact tD);(exact oD))|(apply SY.len;(exact oD);(exact nD);(exact uD))|(apply SY.lenRK;exact OpD.t rfl;(first|exact .head _|exact .tail _ (.head _));(exact uD))|(apply ZBQ;exact OpD.t rfl;(first|exact .head _|exact .tail _ (.head _));(exact uD))|(apply ZA5;(exact eD);(exact oD);(exact oD);exact kD)|(apply SY.ix;(exact eD);(exact oD);(exact oD);exact kD)|(first|(apply SY.fld0 vxT <;> (exact oD))|(apply SY.fld1 vxT <;> (exact oD))|(apply ZBB vxT <;> (exact oD))|(apply SY.mkV1 vxT <;> (exact oD))|(apply SY.mkV vxT <;> (exact oD))|(apply ZCz vxT <;> (exact oD)))|(apply ZAd ZA9;exact OpD.t rfl)|exact ZAm ZA9|(apply ZCV ZA9;exact OpD.t rfl)|(apply Zc ZBj;exact OpD.t rfl)|(apply Zm ZBj;exact OpD.t rfl)|(apply ZCr ZBj <;> exact OpD.t rfl)|(apply SY.eqlB;(exact oD);(exact oD);exact eqBB)|(apply ZAu;(exact OpD.t rfl);(exact aD))|(apply Zn;(exact oD);(with_reducible rfl);(exact oD))|(apply Zj;(exact oD);(with_reducible rfl);(exact oD))|fail);all_goals infer_instance))));dsimp only [ZB,z0,z1])|((first|refine ZM rfl rfl rfl (fun h=>?_) (fun h=>?_)|refine ZL rfl rfl rfl (fun h=>?_) (fun h=>?_)|refine ZK rfl rfl rfl (fun h=>?_) (fun h=>?_)|refine Zp rfl rfl rfl (fun h=>?_) (fun h=>?_)|refine Zo rfl rfl rfl (fun h=>?_) (fun h=>?_)|refine Zl rfl rfl rfl (fun h=>?_) (fun h=>?_)) <;> (first|(exfalso;first|omega|contradiction)|(dsimp only [z0,z1])))|(apply Z0;(exact oD);(with_reducible rfl))|(apply Za;(exact oD);(with_reducible rfl))|(apply WC.condD;(exact oD);all_goals (intro h;try exact xD))|(apply WC.condN;(exact oD);all_goals (intro h;try exact xD))|(apply WC.condNB;(exact oD);all_goals (intro h;try exact xD))|(apply WC.cond;(exact oD);all_goals (intro h;try exact xD))|refine WC.skip ?_|refine WC.ret ?_|refine WC.exit ?_|refine WC.block ?_|refine ThenD.n ?_|refine ThenD.r ?_|refine ThenD.x ?_|refine InBlockD.x ?_|refine InBlockD.n ?_|refine InBlockD.r ?_|refine ZAQ (by decide) ?_));all_goals (first|refine WC.id ?_|refine WL.id ?_|((repeat clear hK);(repeat clear Kx))))
   all_goals first|(exfalso;omega)|skip
   exact ⟨trivial,js1++[_,_],by rw [hhq];simp,js1,.inl q2,rfl⟩⟩
end
end Go.Proofs.YtokmalofdapffaaGreat
namespace Go.Proofs.YtokmalofdapffaaGreat.M
section
open Go.RowKit

section
variable {P:Program} {ops:Array Oper} {hp:List HObj} {fr:List Dat} {d:Dat} {Q:ZAE} {rest:List Oper}
variable {dst:Option Tmp} {ty:TypeId} {ps:String} {af:Array Edge} {g:Option (Nat × Bool)} {T:TypeId} (V:ColT P T)
include V
theorem Zc {α β:Type} {R:Rel α} {S:Rel β} {_gR:Good R} {_gS:Good S} {x:Operand} {p:α × β} (hx:OpD fr x (dP 2 true (dS (R2 R S) p))):SY P ops hp ⟨dst,.fieldAddr T x 0,ty,ps,af,g⟩ fr (dP 1 false (dS R p.1)):=SY.val fun {I w a} ho=>by
 obtain ⟨b,off,u,h1,⟨hb,cs,k1,k0,k2,k3,k4⟩,v0,v1,hu,q0,q1,q2,q3⟩:=hx.get (by simp [Op.operands]) ho
 simp only [if_true] at k4
 rw [k4] at hu
 have hcs:cs=[v0,v1]:=by injection hu with hu;exact List.toArray_inj hu
 subst hcs
 refine ⟨_,?_,b,off+0,v0,rfl,⟨hb,[v0],rfl,Nat.one_pos,by simp [q0],fun j c hc=>?_,rfl⟩,q2⟩
 ·unfold execOp
  simp only [h1,Sem.run_bind,V.fld0,Result.andThen_ok,Sem.run_pure]
 ·have hj:j=0:=by have:=(List.getElem?_eq_some_iff.1 hc).1;simpa using this
  subst hj
  cases hc
  exact k3 0 _ rfl
end
theorem ZPX (x y:Cl):Fn Tryz.prog 43 [dS Col x,dS Col y] (dI (ZAB x.1 y.1)):=by
 (refine ZG Tryz.func43 rfl rfl ?_;simp only [Tryz.ntmps43,List.length_cons,List.length_nil,Nat.reduceAdd,Nat.reduceSub,List.replicate_succ,List.replicate_zero,List.cons_append,List.nil_append])
 ((repeat' (first|(apply ZF;(focus (apply SYG.yes;(exact ZP rfl);(first|(apply SY.assign <;> (exact oD))|(apply SY.load;(exact tD);(exact OpD.t rfl)))));dsimp only [ZB,z0,z1])|refine WL.nil ?_|refine ZA fun Kx hK=>?_|(refine hK _ _ ?_;clear hK)|refine WC.region ?_|(apply ZF;(focus (apply SYG.yes;(exact ZP rfl);((first|(apply SY.call (ZDg x.1 y.1) Tryz.call35;(exact aD))|(apply Zc ZBj;exact OpD.t rfl)|(apply Zm ZBj;exact OpD.t rfl)|(apply SY.box;(exact oD);(exact hD))|fail);all_goals infer_instance)));dsimp only [ZB,z0,z1])|refine WC.ret ?_));all_goals (first|((repeat clear hK);(repeat clear Kx))))
 all_goals ((refine ⟨trivial,_,rfl,?_⟩;refine FinD.i ?_);try rfl)
theorem ZPY {I:Nat->Prop} {w:World} {u v:Value} {x y:Cl} (hu:Col I w u x) (hv:Col I w v y):Calls Tryz.prog 43 #[u,v] w fun e w'=>e = .returned (.int .i64 (ZAB x.1 y.1))/\∃ q os',w'=Go.Sort.grow (w.drewN q) os':=by
 have:=(ZPX x y).out I w [u,v] rfl (fun i d hd=>by
  match i with
  | 0=>cases hd;exact hu
  | 1=>cases hd;exact hv
  | i+2=>simp at hd)
 exact this.mono fun e w' ⟨v,h1,h2,h3⟩=>⟨by rw [h1];exact congrArg _ h3,h2.grow⟩
end
end Go.Proofs.YtokmalofdapffaaGreat.M
namespace Go.Proofs
section
open Go.Shelf
def Tryz.sortK_ren:Go.Shelf.Ren:=⟨fun|6=>42|15=>75|14=>74|28=>100|29=>101|20=>92|21=>93|22=>94|23=>95|24=>96|25=>97|26=>98|27=>99|46=>125|47=>126|48=>127|49=>128|50=>129|57=>136|n=>n,fun|22=>31|24=>43|25=>81|3=>3|39=>114|0=>0|53=>144|55=>146|4=>4|46=>138|45=>137|50=>98|5=>5|9=>9|66=>163|70=>167|76=>174|77=>175|n=>n,fun|n=>n⟩
theorem Tryz.sortK:Go.Proofs.SlLaysF0.n6 Tryz.prog Tryz.sortK_ren:={
 mixed:=by kernel_rfl
 f6:=⟨Tryz.f42.name,by decide,Tryz.func42.trans (congrArg some (by kernel_rfl))⟩
 f14:=⟨Tryz.f74.name,by decide,Tryz.func74.trans (congrArg some (by kernel_rfl))⟩
 f15:=Tryz.func75.trans (congrArg some (by kernel_rfl))
 f20:=⟨Tryz.f92.name,by decide,Tryz.func92.trans (congrArg some (by kernel_rfl))⟩
 f21:=⟨Tryz.f93.name,by decide,Tryz.func93.trans (congrArg some (by kernel_rfl))⟩
 f22:=⟨Tryz.f94.name,by decide,Tryz.func94.trans (congrArg some (by kernel_rfl))⟩
 f23:=⟨Tryz.f95.name,by decide,Tryz.func95.trans (congrArg some (by kernel_rfl))⟩
 f24:=⟨Tryz.f96.name,by decide,Tryz.func96.trans (congrArg some (by kernel_rfl))⟩
 f25:=⟨Tryz.f97.name,by decide,Tryz.func97.trans (congrArg some (by kernel_rfl))⟩
 f26:=⟨Tryz.f98.name,by decide,Tryz.func98.trans (congrArg some (by kernel_rfl))⟩
 f27:=⟨Tryz.f99.name,by decide,Tryz.func99.trans (congrArg some (by kernel_rfl))⟩
 f28:=Tryz.func100.trans (congrArg some (by kernel_rfl))
 f29:=Tryz.func101.trans (congrArg some (by kernel_rfl))
 f46:=⟨Tryz.f125.name,by decide,Tryz.func125.trans (congrArg some (by kernel_rfl))⟩
 f47:=Tryz.func126.trans (congrArg some (by kernel_rfl))
 f48:=Tryz.func127.trans (congrArg some (by kernel_rfl))
 f49:=⟨Tryz.f128.name,by decide,Tryz.func128.trans (congrArg some (by kernel_rfl))⟩
 f50:=⟨Tryz.f129.name,by decide,Tryz.func129.trans (congrArg some (by kernel_rfl))⟩
 f57:=⟨Tryz.f136.name,by decide,Tryz.func136.trans (congrArg some (by kernel_rfl))⟩
 t0:=Tryz.underlying0
 a0:=Tryz.isAgg0
 z0:=Tryz.sizeOf0
 v0:=Tryz.zeroValue0
 t3:=Tryz.underlying3
 a3:=Tryz.isAgg3
 z3:=Tryz.sizeOf3
 v3:=Tryz.zeroValue3
 t4:=Tryz.underlying4
 a4:=Tryz.isAgg4
 z4:=Tryz.sizeOf4
 v4:=Tryz.zeroValue4
 t5:=Tryz.underlying5
 a5:=Tryz.isAgg5
 z5:=Tryz.sizeOf5
 v5:=Tryz.zeroValue5
 t9:=Tryz.underlying9
 a9:=Tryz.isAgg9
 z9:=Tryz.sizeOf9
 v9:=Tryz.zeroValue9
 t22:=Tryz.underlying31
 a22:=Tryz.isAgg31
 z22:=Tryz.sizeOf31
 v22:=Tryz.zeroValue31
 t25:=Tryz.underlying81
 a25:=Tryz.isAgg81
 z25:=Tryz.sizeOf81
 v25:=Tryz.zeroValue81
 t39:=Tryz.underlying114
 a39:=Tryz.isAgg114
 z39:=Tryz.sizeOf114
 v39:=Tryz.zeroValue114
 t45:=Tryz.underlying137
 a45:=Tryz.isAgg137
 z45:=Tryz.sizeOf137
 v45:=Tryz.zeroValue137
 t46:=Tryz.underlying138
 a46:=Tryz.isAgg138
 z46:=Tryz.sizeOf138
 v46:=Tryz.zeroValue138
 t50:=Tryz.underlying98
 a50:=Tryz.isAgg98
 z50:=Tryz.sizeOf98
 v50:=Tryz.zeroValue98
 t53:=Tryz.underlying144
 a53:=Tryz.isAgg144
 z53:=Tryz.sizeOf144
 v53:=Tryz.zeroValue144
 t55:=Tryz.underlying146
 a55:=Tryz.isAgg146
 z55:=Tryz.sizeOf146
 v55:=Tryz.zeroValue146
 t66:=Tryz.underlying163
 a66:=Tryz.isAgg163
 z66:=Tryz.sizeOf163
 v66:=Tryz.zeroValue163
 t70:=Tryz.underlying167
 a70:=Tryz.isAgg167
 z70:=Tryz.sizeOf167
 v70:=Tryz.zeroValue167
 t76:=Tryz.underlying174
 a76:=Tryz.isAgg174
 z76:=Tryz.sizeOf174
 v76:=Tryz.zeroValue174
 t77:=Tryz.underlying175
 a77:=Tryz.isAgg175
 z77:=Tryz.sizeOf175
 v77:=Tryz.zeroValue175 }
end
end Go.Proofs
namespace Go.Proofs.YtokmalofdapffaaGreat
section
open Go.RowKit Go.Sort Go.Shelf
theorem ZGQ {α:Type} [Inhabited α] {enc:α->List Value} (he:∀ x,(enc x).length=2) {d:Array α}:(flatK enc 2 d).toList=(d.toList.map enc).flatten:=by
 apply List.ext_getElem?
 intro t
 have hl:∀ u∈d.toList.map enc,u.length=2:=fun u hu=>by obtain ⟨x,_,rfl⟩:=List.mem_map.1 hu;exact he x
 have hlen:((d.toList.map enc).flatten).length=d.size*2:=by
  rw [List.length_flatten]
  have:(List.map List.length (d.toList.map enc))=List.replicate d.size 2:=by
   rw [List.eq_replicate_iff]
   refine ⟨by simp,fun b hb=>?_⟩
   obtain ⟨u,hu,rfl⟩:=List.mem_map.1 hb
   exact hl u hu
  rw [this];simp
 by_cases ht:t<d.size*2
 ·have h1:t / 2<(d.toList.map enc).length:=by simp;omega
  have h2:t % 2<2:=Nat.mod_lt _ (by decide)
  have hel:t % 2<(enc (d[t / 2]'(by omega))).length:=by rw [he];exact h2
  have h3:((d.toList.map enc)[t / 2]'h1)[t % 2]?=some ((enc (d[t / 2]'(by omega)))[t % 2]'hel):=by
   rw [List.getElem_map,Array.getElem_toList]
   exact List.getElem?_eq_getElem hel
  have h4:=ZAJ hl h1 h3
  have h5:t / 2*2+t % 2=t:=by omega
  rw [h5] at h4
  rw [h4]
  have h6:=get_flatK enc 2 d t ht
  rw [Array.getElem?_toList]
  have h7:t<(flatK enc 2 d).size:=by simp;omega
  rw [getElem!_pos _ t h7,getElem!_pos d (t / 2) (by omega),getElem!_pos _ (t % 2) hel] at h6
  rw [Array.getElem?_eq_getElem h7,h6]
 ·rw [List.getElem?_eq_none (by simp;omega),List.getElem?_eq_none (by omega)]
section
variable {ops:Array Oper} {hp:List HObj} {fr:List Dat} {Q:ZAE} {rest:List Oper} {dst:Option Tmp} {ty:TypeId} {ps:String} {af:Array Edge}
set_option maxHeartbeats 2000000 in
theorem ZPF {x:Operand} {v:Value} {e:TypeId} {xs:List Cl} {ats:Array TypeId} (hx:OpD fr x (dX v)) (hlen:xs.length<4611686018427387904)
  (h:∀ ys:List Cl,ys.Perm xs->ys.Pairwise (fun a b=>¬ ZAB b.1 a.1<0)->WL Tryz.prog ops Q rest (ZB fr dst dA) (Zg v e 2 Col ys::hp)) :
  WL Tryz.prog ops Q (⟨dst,.call { callee:=.value (.func 42),args:=#[x,.func 43],argTypes:=ats },ty,ps,af,none⟩::rest) fr (Zg v e 2 Col xs::hp):=by
 refine WL.of fun P0 B w0 w a hh hf=>?_
 have hok:=hh.ok (Zg v e 2 Col xs) (by simp)
 obtain ⟨us,h1,h2,h0,h3,h4⟩:=hok
 have hev:a.eval x=v:=hx.ev hf
 obtain ⟨hfl,hv⟩:=h3
 have hrun:(execOp a.eval ⟨dst,.call { callee:=.value (.func 42),args:=#[x,.func 43],argTypes:=ats },ty,ps,af,none⟩).run Tryz.prog w = .ok (.enter 42 #[v,.func (.func 43) #[] #[]]) w:=by
  unfold execOp
  simp only [resolve]
  have he:(#[x,Operand.func 43]:Array Operand).map a.eval=#[v,.func (.func 43) #[] #[]]:=by simp [hev];rfl
  rw [he]
  simp [Act.eval,Deferred.ofValue,invoke,Tryz.call42]
 by_cases hne:xs=[]
 ·subst hne
  have hv0:∃ p cap,v = .slice p 0 cap:=by
   rcases hv with ⟨hv,_⟩|⟨g,cap,cur,hv,_⟩
   ·exact ⟨_,_,hv⟩
   ·exact ⟨_,_,hv⟩
  obtain ⟨p,cap,hv0⟩:=hv0
  have hcon:=AnyF.slices_SortFunc_none (P:=Tryz.prog) (ρ:=Tryz.sortK_ren) Tryz.sortK p cap (.func (.func 43) #[] #[]) w
  change Calls Tryz.prog 42 _ _ _ at hcon
  refine wpList_plain rfl fun K hK=>?_
  unfold Oper.wp
  rw [hrun,hv0]
  refine hcon.mono fun e' w' ⟨he,hw'⟩=>?_
  subst he
  subst hw'
  exact hK _ _ ((h [] (List.Perm.refl _) List.Pairwise.nil).on hh (hf.put (d:=dA) trivial))
 have hpos:0<xs.length:=List.length_pos_iff.2 hne
 rcases hv with ⟨_,hz⟩|⟨g,cap,cur,hv,hB,hg,hc1,hc2,hc3,hc4⟩
 ·omega
 have hgb:g<w.heap.size:=(Array.getElem?_eq_some_iff.1 hg).1
 let J:Nat->Prop:=fun b=>Imm P0 B (Zg v e 2 Col xs::hp) b/\v.ownBlock≠some b
 let α:={p:List Value × Cl // p.1.length=2/\(∀ c∈p.1,c.oneCell'=true)/\Col J w (.agg p.1.toArray) p.2}
 let at0:Fin xs.length->α:=fun k=>⟨(us[k.1]'(by omega),xs[k.1]),(h2 _ (List.getElem_mem _)).1,(h2 _ (List.getElem_mem _)).2,h4 k.1 (by omega) k.2⟩
 haveI:Inhabited α:=⟨at0 ⟨0,hpos⟩⟩
 let enc:α->List Value:=fun p=>p.1.1
 have hen:∀ p:α,(enc p).length=2:=fun p=>p.2.1
 let d:Array α:=(List.ofFn at0).toArray
 have hds:d.size=xs.length:=by simp [d]
 have hdu:d.toList.map enc=us:=by
  apply List.ext_getElem (by simp [d,h1])
  intro k a b
  simp [d,enc,at0]
 have hdx:d.toList.map (fun p=>p.1.2)=xs:=by
  apply List.ext_getElem (by simp [d])
  intro k a b
  simp [d,at0]
 have hown:v.ownBlock=some g:=by rw [hv];rfl
 have hF:(flatK enc 2 d).toList=us.flatten:=by rw [ZGQ hen,hdu]
 have hFs:(flatK enc 2 d).size=xs.length*2:=by simp [hds]
 have hH:HoldsK enc 2 w g 0 d:=ZIo hg (by rw [hFs,hF];exact hc4)
 have hgr:∀ (d':Array α) (n:Nat) (os:Array Obj),w.grownBy (sortWorldK enc 2 w g 0 n d' os) (Zg v e 2 Col xs).blk:=fun d' n os=>by
  show w.grownBy _ v.ownBlock
  rw [hown];exact ZFl _
 have hmove:∀ (p:α) (d':Array α) (n:Nat) (os:Array Obj),Col (fun b=>J b/\b<w.heap.size) (sortWorldK enc 2 w g 0 n d' os) (.agg p.1.1.toArray) p.1.2:=fun p d' n os =>
  Good.move (Good.bound p.2.2.2) fun k hk hlt=>(hgr d' n os).block k hlt fun he=>hk.1.2 he.symm
 have hcon:=AnyQ.slices_SortFunc Tryz.sortK 2 Tryz.isAgg43 Tryz.sizeOf43 enc hen (fun p=>p.2.2.1) (fun p q=>ZAB p.1.2.1 q.1.2.1) (swoL fun p:α=>p.1.2.1) 43 #[] g 0 cap d w Tryz.call43
  (fun m os dk _ p q=>M.ZPY (hmove p dk m os) (hmove q dk m os)) hH hgb (by rw [hds];exact hlen)
 change Calls Tryz.prog 42 _ _ _ at hcon
 refine wpList_plain rfl fun K hK=>?_
 unfold Oper.wp
 rw [hrun]
 have hva:v = .slice (some ⟨g,0,none⟩) d.size cap:=by rw [hds];exact hv
 rw [<- hva] at hcon
 refine hcon.mono fun e' w' ⟨he,d',n,os,hp1,hs,hw'⟩=>?_
 subst he
 subst hw'
 obtain ⟨q1,_,q3⟩:=hp1
 have hperm:d'.toList.Perm d.toList:=by
  have e1:d'.extract 0 d.size=d':=by rw [<- q1];simp
  have e2:d.extract 0 d.size=d:=by simp
  rw [e1,e2] at q3
  exact q3
 have hys:(d'.toList.map fun p=>p.1.2).Perm xs:=by
  have:=hperm.map (fun p:α=>p.1.2)
  rwa [hdx] at this
 have hsort:(d'.toList.map fun p=>p.1.2).Pairwise (fun a b=>¬ ZAB b.1 a.1<0):=by
  rw [List.pairwise_map,List.pairwise_iff_getElem]
  intro i j hi hj hij
  have hi':i<d'.size:=by simpa using hi
  have hj':j<d'.size:=by simpa using hj
  have:=hs i j (Nat.zero_le _) hij (by omega)
  rw [getElem!_pos d' i hi',getElem!_pos d' j hj'] at this
  simpa [ltOf] using this
 have hsz:d'.size=xs.length:=by omega
 have hlen':(d'.toList.map fun p=>p.1.2).length=xs.length:=by simp;omega
 have hF':(flatK enc 2 d').toList=(d'.toList.map enc).flatten:=ZGQ hen
 have hFs':(flatK enc 2 d').size=(d'.toList.map fun p=>p.1.2).length*2:=by simp
 have hok:(Zg v e 2 Col (d'.toList.map fun p=>p.1.2)).ok (fun k=>Imm P0 B (Zg v e 2 Col xs::hp) k/\k<w.heap.size) (sortWorldK enc 2 w g 0 n d' os):=by
  refine ⟨d'.toList.map enc,by simp,fun u hu=>?_,by decide,⟨?_,.inr ⟨g,cap,putCells _root_.id 0 (flatK enc 2 d') cur,?_,hB,ZIn _ hg,by omega,hc2,by simp [putCells,hc3],?_⟩⟩,fun k a b=>?_⟩
  ·obtain ⟨p,_,rfl⟩:=List.mem_map.1 hu
   exact ⟨p.2.1,p.2.2.1⟩
  ·rw [<- hF',Array.length_toList,hFs']
  ·rw [hlen'];exact hv
  ·rw [<- hFs',<- hF']
   exact ZGF _ _ (by rw [hFs',hlen',hc3];exact Nat.mul_le_mul_right _ hc1)
  ·have hk:k<d'.toList.length:=by simpa using a
   rw [List.getElem_map,List.getElem_map]
   exact Good.weak (hmove d'.toList[k] d' n os) fun b hb=>⟨⟨hb.1.1,hb.2⟩,hb.1.2⟩
 exact hK _ _ ((h _ hys hsort).on (hh.write (hgr d' n os) (.inl rfl) hok) (Fr.put (hf.mono fun _ _ hd=>ZN (o':=Zg v e 2 Col (d'.toList.map fun p=>p.1.2)) (hgr d' n os) (.inl rfl) hd) (d:=dA) trivial))
end
end
end Go.Proofs.YtokmalofdapffaaGreat
