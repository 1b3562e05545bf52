/- Part 37: walks by contracts, and plain laws. -/
import Derived.Test.YtlgmojhmmbhgfaaGreatDoorVg36
set_option linter.unusedVariables false
set_option linter.unusedSimpArgs false
set_option linter.unusedSectionVars false
set_option maxRecDepth 100000
set_option maxHeartbeats 4000000
namespace Go.Proofs.YtlgmojhmmbhgfaaGreatDoor
section
open Go.RowKit
def ZPU (M:ZDz) (s:List Vx):Nat->Int:=fun m=>ZPW M (atB s m)
def ZSR (M:ZDz) (s:List Vx):Cx:=(ZBR (2 ^ s.length-1)).map (Zz (ZPU M s) s)
def ZF5 (M:ZDz) (l:Cx):Cx:=l.flatMap (ZSR M)
theorem ZNW {M:ZDz} {l:Cx} {i:Nat} (h:i<l.length):ZF5 M (l.take (i+1))=ZF5 M (l.take i)++ZSR M l[i]:=by
 unfold ZF5
 rw [ZP h,List.flatMap_append]
 simp
theorem ZQG {M:ZDz} {s:List Vx} (h5:s.length≤5):(ZSR M s).length=ZI6 s.length:=by
 unfold ZSR
 rw [List.length_map]
 exact ZN2 ⟨s.length,by omega⟩
theorem ZES {M:ZDz}:∀ {l:Cx},(∀ s∈l,s.length≤5)->(ZF5 M l).length=ZC6 l
 | [],_=>rfl
 | s::l,h=>by
  have h1:=ZES (M:=M) (l:=l) fun t ht=>h t (by simp [ht])
  unfold ZF5 at h1 ⊢
  rw [List.flatMap_cons,List.length_append,h1,ZQG (h s (by simp))]
  unfold ZC6
  rw [List.map_cons,List.sum_cons]
theorem ZJe {l:Cx} (i:Nat):ZC6 (l.take i)≤ZC6 l:=by
 conv=>rhs;rw [<- List.take_append_drop i l]
 unfold ZC6
 rw [List.map_append,List.sum_append]
 omega
theorem ZHl {l:Cx} {n:Nat} (h:∀ s∈l,s.length≤n):l.flatten.length≤n*l.length:=by
 induction l with
 | nil=>simp
 | cons s l ih =>
  have h1:=ih fun t ht=>h t (by simp [ht])
  have h2:=h s (by simp)
  rw [List.flatten_cons,List.length_append,List.length_cons,Nat.mul_succ]
  omega
theorem ZSQ {M:ZDz} {l:Cx} (h5:∀ s∈l,s.length≤5):∀ t∈ZF5 M l,t.length≤5:=fun t ht=>by
 obtain ⟨s,hs,ht⟩:=List.mem_flatMap.1 ht
 obtain ⟨bl,_,rfl⟩:=List.mem_map.1 ht
 rw [ZBS]
 exact h5 s hs
abbrev MemM:={m:Nat // m<1048576}

theorem ZHb (l:Cx) (he:ZF4 l≠0):Fn Tryz.prog 7 [dS CpxL l] (dT [dS ZCb ([],[],[]),dI (ZF4 l)]):=by
 have c1:=ZFG l
 generalize ZF4 l=e at *
 refine ZAB ZAd Tryz.func7 rfl rfl ?_
 simp only [Tryz.ntmps7,List.length_cons,List.length_nil,Nat.reduceAdd,Nat.reduceSub,List.replicate_succ,List.replicate_zero,List.cons_append,List.nil_append]
 ((repeat' (first|(apply WL.opN;exact yF;dsimp only [ZB,z0,z1])|refine WL.nil ?_|refine ZA fun Kx hK=>?_|(refine hK _ _ ?_;clear hK)|refine WC.region ?_ |  (refine WL.alloc (dst:=some 2) ZCH (Zj rfl rfl rfl) fun b2=>?_;dsimp only [ZB,z0,z1]) |  (refine ZN ZAd rfl (OpD.t rfl) Zn ?_;dsimp only [ZB,z0,z1])|(apply WL.opN;(focus ((first|(exact SY.box (OpD.t rfl) (fun I w v h=>Zt I w v (ZAp I w v h)))|(apply SY.call c1 Tryz.call23;exact ArgsD.cons (OpD.tle rfl ZAp) ArgsD.nil)|(exact ZA9)|((first|apply SY.move|apply SY.assign|apply SY.lss|apply SY.neq) <;> (exact oD))|fail);all_goals infer_instance));dsimp only [ZB,z0,z1])|(apply ZL;(exact oD);all_goals (intro h;try exact xD))|refine WC.ret ?_|refine ThenD.r ?_));all_goals (first|((repeat clear hK);(repeat clear Kx))))
 all_goals first|(refine ⟨trivial,⟨_,rfl,?_⟩,_,rfl,?_⟩ <;> exact fD)|(exfalso;first|contradiction|omega)
end
section
open Go.RowKit

def Z3:Nat->Cx->List Vx->Int
 | _,[],_=>-1
 | k,x::l,s=>if x=s then (k:Int) else Z3 (k+1) l s
theorem ZOY {l:Cx} {s:List Vx} {k:Nat} (h:k<l.length):Z3 k (l.drop k) s=if l[k]=s then (k:Int) else Z3 (k+1) (l.drop (k+1)) s:=by
 rw [Zd h];rfl
theorem ZDm (l:Cx) (s:List Vx):Fn Tryz.prog 39 [dS Zc l,dS ZE s] (dI (Z3 0 l s)):=by
 (refine ZG Tryz.func39 rfl rfl ?_;simp only [Tryz.ntmps39,List.length_cons,List.length_nil,Nat.reduceAdd,Nat.reduceSub,List.replicate_succ,List.replicate_zero,List.cons_append,List.nil_append])
 (first|refine ZS (t:=0) rfl ZFJ fun hl0=>?_|refine ZS (t:=0) rfl ZFI fun hl0=>?_|refine ZS (t:=0) rfl ZPV fun hl0=>?_);simp only [maxLen] at hl0
 (repeat' (first|(apply WL.opN;exact yF;dsimp only [ZB,z0,z1])|refine WL.nil ?_|refine ZA fun Kx hK=>?_|(refine hK _ _ ?_;clear hK)|refine WC.region ?_|refine WC.block ?_))
 (refine WC.loopU (X:=Nat) (fun k=>[(5,dI (k:Int)),(4,dA),(6,dA),(7,dA),(8,dA),(9,dA),(10,dA),(11,dA),(12,dA),(13,dA),(14,dA),(15,dA),(16,dA),(17,dA),(18,dA)]) (fun k=>[]) (fun k=>l.length-k) (fun k=>k≤l.length/\Z3 k (l.drop k) s=Z3 0 l s) 0 ?start ?frame0 ?objs0 ?round)
 case start=>exact ⟨Nat.zero_le _,rfl⟩
 case frame0=>((try dsimp only [ZK,z0,z1]);repeat (first|exact LeF.nil|refine ZD (k:=?_)))
 case objs0=>rfl
 case round =>
  rintro k ⟨k1,k2⟩
  dsimp only [ZK,z0,z1]
  by_cases hk:k<l.length
  ·rw [ZOY hk] at k2
   have c1:=ZLo l[k] s
   by_cases he:l[k]=s
   ·rw [decide_eq_true (ZBe.2 he)] at c1
    rw [if_pos he] at k2
    ((repeat' (first|(apply WL.opN;exact yF;dsimp only [ZB,z0,z1])|refine WL.nil ?_|refine ZA fun Kx hK=>?_|(refine hK _ _ ?_;clear hK)|refine WC.region ?_|(apply WL.opN;(focus ((first|(apply SY.call (c1) Tryz.call21;(exact aD))|((first|apply SY.move|apply SY.assign|apply SY.lss) <;> (exact oD))|(apply SY.len;(exact oD);(exact nD);(exact uD))|(apply ZAw;(exact eD);(exact oD);(exact oD);exact kD)|fail);all_goals infer_instance));dsimp only [ZB,z0,z1])|(apply ZAs;(exact oD);(with_reducible rfl))|(apply ZC;(exact oD);all_goals (intro h;try exact xD))|refine WC.skip ?_|refine WC.ret ?_|refine WC.block ?_|refine ThenD.r ?_|refine InBlockD.r ?_));all_goals (first|((repeat clear hK);(repeat clear Kx))))
    all_goals try (exfalso;first|contradiction|omega)
    all_goals (refine ⟨trivial,_,rfl,?_⟩;refine FinD.i ?_)
    all_goals rw [k2]
   ·rw [decide_eq_false fun q=>he (ZBe.1 q)] at c1
    rw [if_neg he] at k2
    ((repeat' (first|(apply WL.opN;exact yF;dsimp only [ZB,z0,z1])|refine WL.nil ?_|refine ZA fun Kx hK=>?_|(refine hK _ _ ?_;clear hK)|refine WC.region ?_|(apply WL.opN;(focus ((first|(apply SY.call (c1) Tryz.call21;(exact aD))|((first|apply SY.move|apply SY.assign|apply SY.lss) <;> (exact oD))|((first|apply SY.add) <;> first|exact oD|omega)|(apply SY.len;(exact oD);(exact nD);(exact uD))|(apply ZAw;(exact eD);(exact oD);(exact oD);exact kD)|fail);all_goals infer_instance));dsimp only [ZB,z0,z1])|(apply Zi;(exact oD);(with_reducible rfl))|(apply ZC;(exact oD);all_goals (intro h;try exact xD))|refine WC.skip ?_|refine WC.block ?_|refine ThenD.n ?_));all_goals (first|((repeat clear hK);(repeat clear Kx))))
    all_goals try (exfalso;first|contradiction|omega)
    (refine ⟨k+1,?_,by first|omega|(simp only;omega),rfl,?_⟩;rotate_left;((try dsimp only [ZK,z0,z1]);repeat (first|exact LeF.nil|refine ZD (k:=?_)));(try dsimp only))
    exact ⟨by omega,k2⟩
  ·rw [List.drop_of_length_le (by omega)] at k2
   have k3:(-1:Int)=Z3 0 l s:=k2
   ((repeat' (first|(apply WL.opN;exact yF;dsimp only [ZB,z0,z1])|refine WL.nil ?_|refine ZA fun Kx hK=>?_|(refine hK _ _ ?_;clear hK)|(refine Kont.skip ?_;clear hK)|refine WC.region ?_|(apply WL.opN;(focus ((first|((first|apply SY.move|apply SY.assign|apply SY.lss) <;> (exact oD))|(apply SY.len;(exact oD);(exact nD);(exact uD))|fail);all_goals infer_instance));dsimp only [ZB,z0,z1])|(apply ZC;(exact oD);all_goals (intro h;try exact xD))|refine WC.ret ?_|refine WC.exit ?_));all_goals (first|((repeat clear hK);(repeat clear Kx))))
   all_goals try (exfalso;first|contradiction|omega)
   all_goals (refine ⟨trivial,_,rfl,?_⟩;refine FinD.i ?_)
   all_goals rw [k3]
def ZGe (o:Cx) (s:List Vx):Cx:=if Z3 0 o s<0 then o++[s] else o
theorem ZPx (o:Cx) (s:List Vx):(ZGe o s).length≤o.length+1:=by
 unfold ZGe;split <;> simp
theorem ZGG:∀ (l o:Cx),(l.foldl ZGe o).length≤o.length+l.length
 | [],o=>by simp
 | s::l,o=>by
  have h1:=ZGG l (ZGe o s)
  have h2:=ZPx o s
  rw [List.foldl_cons,List.length_cons];omega
def Zr (l:Cx):Cx:=(ZDx l).foldl ZGe []
set_option maxHeartbeats 8000000 in
theorem ZLF (l:Cx) (hl:l.length≤4096) (h8:∀ s∈l,s.length≤8):Fn Tryz.prog 37 [dS Cpx l] (dS Zc (Zr l)):=by
 (refine ZG Tryz.func37 rfl rfl ?_;simp only [Tryz.ntmps37,List.length_cons,List.length_nil,Nat.reduceAdd,Nat.reduceSub,List.replicate_succ,List.replicate_zero,List.cons_append,List.nil_append])
 (repeat' (first|(apply WL.opN;exact yF;dsimp only [ZB,z0,z1])|refine WL.nil ?_|refine ZA fun Kx hK=>?_|(refine hK _ _ ?_;clear hK)|refine WC.region ?_|(apply WL.opN;(focus ((first|(exact SY.box (OpD.t rfl) Zt)|fail);all_goals infer_instance));dsimp only [ZB,z0,z1])|refine WC.block ?_))
 refine ZAy 28 ZE ?_
 (refine WC.loopU (X:=Nat × Value) (fun x=>[(3,dX x.2),(4,dI (x.1:Int)),(5,dA),(6,dA),(7,dA),(8,dA),(9,dA),(10,dA),(11,dA),(12,dA),(13,dA),(14,dA),(15,dA),(16,dA),(17,dA),(18,dA),(19,dA),(20,dA),(21,dA),(22,dA),(23,dA),(24,dA),(25,dA),(26,dA),(27,dA),(28,dA),(29,dA),(30,dA),(31,dA),(32,dA),(33,dA),(34,dA),(35,dA),(36,dA),(37,dA),(38,dA),(39,dA),(40,dA),(41,dA),(42,dA),(43,dA),(44,dA),(45,dA),(46,dA),(47,dA),(48,dA),(49,dA),(50,dA),(51,dA)]) (fun x=>[ZW x.2 28 ZE ((ZDx (l.take x.1)).foldl ZGe [])]) (fun x=>l.length-x.1) (fun x=>x.1≤l.length) (0,.slice none 0 0) ?start ?frame0 ?objs0 ?round)
 case start=>exact Nat.zero_le _
 case frame0=>((try dsimp only [ZK,z0,z1]);repeat (first|exact LeF.nil|refine ZD (k:=?_)))
 case objs0=>rfl
 case round =>
  rintro ⟨i,u⟩ h1
  simp only at h1
  dsimp only [ZK,z0,z1]
  by_cases hi:i<l.length
  ·have h8i:=h8 _ (List.getElem_mem hi)
   have e:=ZIx hi
   have hpl:=ZLC (l:=l.take i) fun s hs=>h8 s (List.mem_of_mem_take hs)
   rw [List.length_take] at hpl
   generalize ZDx (l.take i)=PC at *
   (repeat' (first|(apply WL.opN;exact yF;dsimp only [ZB,z0,z1])|refine WL.nil ?_|refine ZA fun Kx hK=>?_|(refine hK _ _ ?_;clear hK)|refine WC.region ?_|(apply WL.opN;(focus ((first|((first|apply SY.move|apply SY.assign|apply SY.lss|apply SY.leq) <;> (exact oD))|(apply SY.len;(exact oD);(exact nD);(exact uD))|(apply Zs ZCt;exact OpD.t rfl)|fail);all_goals infer_instance));dsimp only [ZB,z0,z1])|(apply ZC;(exact oD);all_goals (intro h;try exact xD))|refine WC.skip ?_|refine WC.block ?_))
   all_goals try (exfalso;first|contradiction|omega)
   (refine WC.loopU (X:=Nat × Value) (fun x=>[(3,dX x.2),(5,dI ((x.1:Int)+1)),(6,dA),(7,dA),(15,dA),(16,dA),(17,dA),(18,dA),(19,dA),(20,dA),(21,dA),(22,dA),(23,dA),(24,dA),(25,dA),(26,dA),(27,dA),(28,dA),(29,dA),(30,dA),(31,dA),(32,dA),(33,dA),(34,dA),(35,dA),(36,dA),(37,dA),(38,dA),(39,dA),(40,dA),(41,dA),(42,dA),(43,dA),(44,dA),(45,dA),(46,dA),(47,dA),(48,dA),(49,dA),(50,dA),(51,dA)]) (fun x=>[ZW x.2 28 ZE ((PC++(List.range x.1).flatMap (fun k=>Zg (k+1) l[i])).foldl ZGe [])]) (fun x=>l[i].length-x.1) (fun x=>x.1≤l[i].length) (0,u) ?start ?frame0 ?objs0 ?round)
   case start=>exact Nat.zero_le _
   case frame0=>((try dsimp only [ZK,z0,z1]);repeat (first|exact LeF.nil|refine ZD (k:=?_)))
   case objs0=>simp
   case round =>
    rintro ⟨k,u2⟩ k1
    simp only at k1
    dsimp only [ZK,z0,z1]
    by_cases hk:k<l[i].length
    ·have cS:=ZRy (k+1) l[i] (by omega) (by omega)
     rw [show ((k+1:Nat):Int)=(k:Int)+1 by omega] at cS
     have hTl:=ZGZ h8i (k+1)
     have hpk:=ZCB (fun k=>Zg (k+1) l[i]) 256 (List.range k) fun k _=>ZGZ h8i _
     rw [List.length_range] at hpk
     have ek:(List.range (k+1)).flatMap (fun k=>Zg (k+1) l[i])=(List.range k).flatMap (fun k=>Zg (k+1) l[i])++Zg (k+1) l[i]:=by
      rw [List.range_succ,List.flatMap_append];simp
     generalize (List.range k).flatMap (fun k=>Zg (k+1) l[i])=PK at *
     generalize Zg (k+1) l[i]=T at *
     (repeat' (first|(apply WL.opN;exact yF;dsimp only [ZB,z0,z1])|refine WL.nil ?_|refine ZA fun Kx hK=>?_|(refine hK _ _ ?_;clear hK)|refine WC.region ?_|(apply WL.opN;(focus ((first|(apply SY.call (cS) Tryz.call79;(exact aD))|((first|apply SY.move|apply SY.assign|apply SY.lss|apply SY.leq) <;> (exact oD))|(apply SY.len;(exact oD);(exact nD);(exact uD))|(apply ZAw;(exact eD);(exact oD);(exact oD);exact kD)|(apply Zs ZCt;exact OpD.t rfl)|fail);all_goals infer_instance));dsimp only [ZB,z0,z1])|(apply ZC;(exact oD);all_goals (intro h;try exact xD))|refine WC.skip ?_|refine WC.block ?_))
     all_goals try (exfalso;first|contradiction|omega)
     (refine WC.loopU (X:=Nat × Value) (fun x=>[(3,dX x.2),(7,dI (x.1:Int)),(32,dA),(33,dA),(34,dA),(35,dA),(36,dA),(37,dA),(38,dA),(39,dA),(40,dA),(41,dA),(42,dA),(43,dA),(44,dA),(45,dA),(46,dA),(47,dA),(48,dA),(49,dA),(50,dA),(51,dA)]) (fun x=>[ZW x.2 28 ZE ((PC++PK++T.take x.1).foldl ZGe [])]) (fun x=>T.length-x.1) (fun x=>x.1≤T.length) (0,u2) ?start ?frame0 ?objs0 ?round)
     case start=>exact Nat.zero_le _
     case frame0=>((try dsimp only [ZK,z0,z1]);repeat (first|exact LeF.nil|refine ZD (k:=?_)))
     case objs0=>simp
     case round =>
      rintro ⟨j,u3⟩ q1
      simp only at q1
      dsimp only [ZK,z0,z1]
      have ej:=fun (h:j<T.length)=>show (PC++PK++T.take (j+1)).foldl ZGe []=ZGe ((PC++PK++T.take j).foldl ZGe []) T[j] by
       rw [List.take_succ_eq_append_getElem h,<- List.append_assoc,List.foldl_append];rfl
      have hML:=ZGG (PC++PK++T.take j) []
      rw [List.length_append,List.length_append,List.length_take,List.length_nil] at hML
      have hend:¬ j<T.length->T.take j=T:=fun h=>List.take_of_length_le (by omega)
      have hends:¬ j<T.length->(PC++PK++T.take j).foldl ZGe []=(PC++(PK++T)).foldl ZGe []:=fun h=>by rw [hend h,List.append_assoc]
      generalize (PC++PK++T.take j).foldl ZGe []=O at *
      by_cases hj:j<T.length
      ·have hj1:=ej hj
       have hOl:O.length≤16777216:=by omega
       clear ej hML hend hends
       by_cases hn:Z3 0 O T[j]<0
       ·rw [show ZGe O T[j]=O++[T[j]] from if_pos hn] at hj1
        ((repeat' (first|(apply WL.opN;exact yF;dsimp only [ZB,z0,z1])|refine WL.nil ?_|refine ZA fun Kx hK=>?_|(refine hK _ _ ?_;clear hK)|refine WC.region ?_|((first|apply ZBJ|apply ZA6);(exact eD);exact OpD.t rfl;(exact oD);(intro _;exact hD);(exact (by simp));(exact (by simp));(first|exact ⟨by decide,by decide⟩|skip);decide;(exact lD);(intro _;dsimp only [ZB,z0,z1]);all_goals (try infer_instance))|(apply WL.opN;(focus ((first|(apply ZKd (ZDm O T[j]) ZNI Tryz.call39;(exact bD))|((first|apply SY.move|apply SY.assign|apply SY.lss|apply SY.leq) <;> (exact oD))|((first|apply SY.add) <;> first|exact oD|omega)|(apply SY.len;(exact oD);(exact nD);(exact uD))|(apply ZAw;(exact eD);(exact oD);(exact oD);exact kD)|fail);all_goals infer_instance));dsimp only [ZB,z0,z1])|(apply ZC;(exact oD);all_goals (intro h;try exact xD))|refine WC.skip ?_|refine WC.block ?_|refine ThenD.n ?_));all_goals (first|((repeat clear hK);(repeat clear Kx))))
        all_goals try (exfalso;first|contradiction|omega)
        (refine ⟨(j+1,_) , ?_,by first|omega|(simp only;omega),by ((try simp only);  (rw [hj1])),?_⟩;rotate_left;((try dsimp only [ZK,z0,z1]);repeat (first|exact LeF.nil|refine ZD (k:=?_)));(try dsimp only))
        omega
       ·rw [show ZGe O T[j]=O from if_neg hn] at hj1
        ((repeat' (first|(apply WL.opN;exact yF;dsimp only [ZB,z0,z1])|refine WL.nil ?_|refine ZA fun Kx hK=>?_|(refine hK _ _ ?_;clear hK)|refine WC.region ?_|(apply WL.opN;(focus ((first|(apply ZKd (ZDm O T[j]) ZNI Tryz.call39;(exact bD))|((first|apply SY.move|apply SY.assign|apply SY.lss|apply SY.leq) <;> (exact oD))|((first|apply SY.add) <;> first|exact oD|omega)|(apply SY.len;(exact oD);(exact nD);(exact uD))|(apply ZAw;(exact eD);(exact oD);(exact oD);exact kD)|fail);all_goals infer_instance));dsimp only [ZB,z0,z1])|(apply ZC;(exact oD);all_goals (intro h;try exact xD))|refine WC.skip ?_|refine WC.block ?_|refine ThenD.n ?_));all_goals (first|((repeat clear hK);(repeat clear Kx))))
        all_goals try (exfalso;first|contradiction|omega)
        (refine ⟨(j+1,_) , ?_,by first|omega|(simp only;omega),by ((try simp only);  (rw [hj1])),?_⟩;rotate_left;((try dsimp only [ZK,z0,z1]);repeat (first|exact LeF.nil|refine ZD (k:=?_)));(try dsimp only))
        omega
      ·have hO:=hends hj
       ((repeat' (first|(apply WL.opN;exact yF;dsimp only [ZB,z0,z1])|refine WL.nil ?_|refine ZA fun Kx hK=>?_|(refine hK _ _ ?_;clear hK)|(refine Kont.skip ?_;clear hK)|refine WC.region ?_|(apply WL.opN;(focus ((first|((first|apply SY.move|apply SY.assign|apply SY.lss|apply SY.leq) <;> (exact oD))|((first|apply SY.add) <;> first|exact oD|omega)|(apply SY.len;(exact oD);(exact nD);(exact uD))|fail);all_goals infer_instance));dsimp only [ZB,z0,z1])|(apply ZC;(exact oD);all_goals (intro h;try exact xD))|refine WC.exit ?_|refine ThenD.n ?_));all_goals (first|((repeat clear hK);(repeat clear Kx))))
       all_goals try (exfalso;first|contradiction|omega)
       (refine ⟨(k+1,_) , ?_,by first|omega|(simp only;omega),by ((try simp only);  (rw [ek,hO])),?_⟩;rotate_left;((try dsimp only [ZK,z0,z1]);repeat (first|exact LeF.nil|refine ZD (k:=?_)));(try dsimp only))
       omega
    ·have hke:k=l[i].length:=by omega
     subst hke
     ((repeat' (first|(apply WL.opN;exact yF;dsimp only [ZB,z0,z1])|refine WL.nil ?_|refine ZA fun Kx hK=>?_|(refine hK _ _ ?_;clear hK)|(refine Kont.skip ?_;clear hK)|refine WC.region ?_|(apply WL.opN;(focus ((first|((first|apply SY.move|apply SY.assign|apply SY.lss|apply SY.leq) <;> (exact oD))|((first|apply SY.add) <;> first|exact oD|omega)|(apply SY.len;(exact oD);(exact nD);(exact uD))|(apply ZAw;(exact eD);(exact oD);(exact oD);exact kD)|(apply Zs ZCt;exact OpD.t rfl)|fail);all_goals infer_instance));dsimp only [ZB,z0,z1])|(apply ZC;(exact oD);all_goals (intro h;try exact xD))|refine WC.exit ?_|refine ThenD.n ?_));all_goals (first|((repeat clear hK);(repeat clear Kx))))
     all_goals try (exfalso;first|contradiction|omega)
     (refine ⟨(i+1,_) , ?_,by first|omega|(simp only;omega),by ((try simp only);  (rw [e];rfl)),?_⟩;rotate_left;((try dsimp only [ZK,z0,z1]);repeat (first|exact LeF.nil|refine ZD (k:=?_)));(try dsimp only))
     omega
  ·rw [List.take_of_length_le (by omega)]
   ((repeat' (first|(apply WL.opN;exact yF;dsimp only [ZB,z0,z1])|refine WL.nil ?_|refine ZA fun Kx hK=>?_|(refine hK _ _ ?_;clear hK)|(refine Kont.skip ?_;clear hK)|refine WC.region ?_|(apply WL.opN;(focus ((first|((first|apply SY.move|apply SY.assign|apply SY.lss|apply SY.leq) <;> (exact oD))|(apply SY.len;(exact oD);(exact nD);(exact uD))|(apply Zs ZCt;exact OpD.t rfl)|fail);all_goals infer_instance));dsimp only [ZB,z0,z1])|(apply ZC;(exact oD);all_goals (intro h;try exact xD))|refine WC.ret ?_|refine WC.exit ?_));all_goals (first|((repeat clear hK);(repeat clear Kx))))
   all_goals try (exfalso;first|contradiction|omega)
   (refine ⟨trivial,_,rfl,?_⟩;exact fD)
end
section
open Go.RowKit
theorem ZMS {w:World} {g cap:Nat} {e:TypeId} {xs:List Vx} (h:ZGh w g cap e xs) {k:Nat} (hk:k<xs.length) (y:Int) :
  ZGh (w.setCells g (k*2+1) [Value.int .i64 y]) g cap e (xs.set k (xs[k].1,y)):=by
 obtain ⟨tl,hg,hc1,hc2,hc3⟩:=h
 have e1:xs=xs.take k++(xs[k]::xs.drop (k+1)):=by rw [<- List.drop_eq_getElem_cons hk,List.take_append_drop]
 have e2:xs.set k (xs[k].1,y)=xs.take k++((xs[k].1,y)::xs.drop (k+1)):=by rw [List.set_eq_take_append_cons_drop,if_pos hk]
 have hA:(Zo (xs.take k)++[Value.int .i64 xs[k].1]).length=k*2+1:=by rw [List.length_append,ZAP,List.length_take,Nat.min_eq_left (Nat.le_of_lt hk)];rfl
 have e3:Zo xs++tl=(Zo (xs.take k)++[Value.int .i64 xs[k].1])++[Value.int .i64 xs[k].2]++(Zo (xs.drop (k+1))++tl):=by
  conv=>lhs;rw [e1]
  rw [ZA1,ZB6];simp
 have e4:Zo (xs.set k (xs[k].1,y))++tl=(Zo (xs.take k)++[Value.int .i64 xs[k].1])++[Value.int .i64 y]++(Zo (xs.drop (k+1))++tl):=by
  rw [e2,ZA1,ZB6];simp
 rw [e3] at hg
 have:=ZAX [Value.int .i64 y] [Value.int .i64 xs[k].2] _ _ w rfl hg
 rw [hA] at this
 refine ⟨tl,?_,by rw [List.length_set];exact hc1,hc2,?_⟩
 ·rw [this,e4]
 ·rw [List.length_append,ZAP] at hc3 ⊢
  rw [List.length_set];exact hc3
section
variable {P:Program} {ops:Array Oper} {hp:List HObj} {fr:List Dat} {Q:ZAL} {rest:List Oper}
variable {dst:Option Tmp} {ty:TypeId} {ps:String} {af:Array Edge} {g:Option (Nat × Bool)} {T e:TypeId} {b cap:Nat} {xs:List Vx}
theorem ZMo {x:Operand} {j k:Nat} (T':TyI P T 1 false) (hx:OpD fr x (dX (.pointer (some ⟨b,j,none⟩)))) {N:Nat} (hm:hV b N cap e xs∈hp) (hj:j=k*2+1) (hk:k<xs.length) :
  SY P ops hp ⟨dst,.load T x,ty,ps,af,g⟩ fr (dI xs[k].2):=ZAO fun {P0 B w0 w a} hh ho=>by
 have h1:a.eval x=_:=hx.get (by simp [Op.operands]) ho
 have hrow:=(ZBb.1 (hh.ok _ hm)).2
 subst hj
 have hc:Cells (fun _=>True) w b (k*2+1) 1 false (.int .i64 xs[k].2):=by
  refine ⟨trivial,[Value.int .i64 xs[k].2],rfl,by decide,by simp [Value.oneCell'],fun i c hc=>?_,rfl⟩
  have hi:i=0:=by have:=(List.getElem?_eq_some_iff.1 hc).1;simpa using this
  subst hi
  cases hc
  have hcell:=(ZFj hrow (k*2+1) (by omega)).1
  rw [Nat.add_zero,hcell]
  exact (ZGE hk).2
 refine ⟨_,w,?_,Ext.refl _,rfl⟩
 unfold execOp
 simp only [h1,Sem.run_bind,ZA3 T' hc,Result.andThen_ok,Sem.run_pure]
theorem ZL3 {p:Tmp} {x:Operand} {j k N:Nat} {y:Int} (T':TyI P T 1 false) (hp0:OpD fr (.tmp p) (dX (.pointer (some ⟨b,j,none⟩)))) (hx:OpD fr x (dI y)) (hj:j=k*2+1) (hk:k<xs.length)
  (h:WL P ops Q rest (ZB fr dst dA) (hV b N cap e (xs.set k (xs[k].1,y))::hp)):WL P ops Q (⟨dst,.store T (.tmp p) x,ty,ps,af,none⟩::rest) fr (hV b N cap e xs::hp):=by
 refine WL.of fun P0 B w0 w a hh hf=>?_
 obtain ⟨hN,hrow⟩:=ZBb.1 (hh.ok (hV b N cap e xs) (by simp))
 have h1:a.eval (.tmp p)=_:=hp0.ev hf
 have h2:a.eval x = .int .i64 y:=hx.ev hf
 subst hj
 have hrun:(execOp a.eval ⟨dst,.store T (.tmp p) x,ty,ps,af,none⟩).run P w = .ok .skip (w.setCells b (k*2+1) [Value.int .i64 y]):=by
  have hth:=ZCF hrow (k*2+1) 1 (by omega)
  have hst0:=run_storeCells_cells (P:=P) b (k*2+1) [Value.int .i64 y] 0 w (fun j hj=>by simpa using (hth j (by simpa using hj)).1) (fun j hj=>by simpa using (hth j (by simpa using hj)).2) (fun v hv=>by rw [List.mem_singleton.1 hv];rfl)
  have hsz:(sizeOf T).run P w = .ok 1 w:=by
   have h5:=T'.size
   cases hq:P.info? T with
   | none=>rw [hq] at h5;cases h5
   | some i =>
    rw [hq] at h5
    have:i.size=1:=by simpa using h5
    rw [<- this]
    rw [run_sizeOf w hq]
    simp [Program.cellsOf,hq]
  have hone:(Value.int .i64 y).oneCell'=true:=rfl
  unfold execOp
  simp only [h1,h2,Instr.storeAt,Instr.sureAddr,storeVar,Sem.run_bind,hsz,Result.andThen_ok,Sem.run_pure]
  simp only [Nat.add_zero] at hst0
  simp [ZB9 hone,hst0]
 have hgr:w.grownBy (w.setCells b (k*2+1) [Value.int .i64 y]) (hV b N cap e xs).blk:=ZCj
 have hok:(hV b N cap e (xs.set k (xs[k].1,y))).ok (fun j=>Imm P0 B (hV b N cap e xs::hp) j/\j<w.heap.size) (w.setCells b (k*2+1) [Value.int .i64 y]) :=
  ZBb.2 ⟨by rw [hN,List.length_set],ZMS hrow hk y⟩
 refine wpList_plain rfl fun K hK=>?_
 unfold Oper.wp
 rw [hrun]
 exact hK _ _ (h.on (hh.write hgr (.inl rfl) hok) (Fr.put (hf.mono fun _ _ hd=>ZM (o':=hV b N cap e (xs.set k (xs[k].1,y))) hgr (.inl rfl) hd) (d:=dA) trivial))
end
end
section
open Go.RowKit

set_option maxHeartbeats 4000000 in
theorem ZOn (s:List Vx) (bl:List Nat) (hs:s.length≤60) (hb:∀ b∈bl,b<1048576):CallC Tryz.prog 71 [dS ZE s,dS ZBt (Zv bl)] [] (fun d hp2=>∃ v,d=dX v/\hp2=[ZV v 43 2 RV (ZAk s bl)]):=by
 (refine Z5 Tryz.func71 rfl rfl (fun hp=>?_);simp only [Tryz.ntmps71,List.length_cons,List.length_nil,List.length_append,List.length_map,Nat.reduceAdd,Nat.reduceSub,List.replicate_succ,List.replicate_zero,List.cons_append,List.nil_append,List.map_cons,List.map_nil,List.append_assoc])
 (repeat' (first|((first|apply WL.opN|apply WD.opN);exact yF;dsimp only [ZB,z0,z1])|refine WL.nil ?_|refine ZA fun Kx hK=>?_|(refine hK _ _ ?_;clear hK)|refine WC.region ?_|refine WC.block ?_))
 refine ZAl 43 2 (by decide) RV ?_
 (refine WC.loopU (X:=Nat × Value) (fun x=>[(5,dX x.2),(6,dI (x.1:Int)),(7,dA),(8,dA),(9,dA),(10,dA),(11,dA),(12,dA),(13,dA),(14,dA),(15,dA),(16,dA),(17,dA),(18,dA),(19,dA),(20,dA),(21,dA),(22,dA),(23,dA),(24,dA)]) (fun x=>ZV x.2 43 2 RV ((ZAk s bl).take x.1)::hp) (fun x=>s.length-x.1) (fun x=>x.1≤s.length) (0,.slice none 0 0) ?start ?frame0 ?objs0 ?round)
 case start=>simp
 case frame0=>((try dsimp only [ZK,z0,z1]);repeat (first|exact LeF.nil|refine ZD (k:=?_)))
 case objs0=>rfl
 case round =>
  rintro ⟨k,u⟩ h1
  dsimp only [ZK,z0,z1]
  simp only at h1
  have h2:((ZAk s bl).take k).length≤1000:=by rw [List.length_take];omega
  by_cases hk:k<s.length
  ·have hkl:k<(ZAk s bl).length:=by rw [Z4];exact hk
   have c1:=ZJX bl k hb (by omega)
   ((repeat' (first |  (apply WC.drawTail 11;kernel_rfl;kernel_rfl;simp only [List.take_succ_cons,List.take_zero,List.drop_succ_cons,List.drop_zero])|((first|apply WL.opN|apply WD.opN);exact yF;dsimp only [ZB,z0,z1])|refine WL.nil ?_|refine WD.nil ?_|refine ZA fun Kx hK=>?_|(refine hK _ _ ?_;clear hK)|refine WC.region ?_|((first|apply WL.appK|apply WL.app1);(exact eD);exact OpD.t rfl;(exact oD);decide;(exact lD);(intro _;dsimp only [ZB,z0,z1]);all_goals (try infer_instance))|((first|apply WL.opN|apply WD.opN);(focus ((first|(apply SY.call (c1) Tryz.call102;(exact aD))|((first|apply SY.move|apply SY.assign|apply SY.lss) <;> (exact oD))|((first|apply SY.add) <;> first|exact oD|omega)|(apply SY.len;(exact oD);(exact nD);(exact uD))|(apply ZBC;(exact eD);(exact oD);(exact oD);exact kD)|(first|(apply SY.fld0 vxT <;> (exact oD))|(apply SY.fld1 vxT <;> (exact oD))|(apply ZFr vxT <;> (exact oD))|(apply ZFs vxT <;> (exact oD))|(apply ZGs vxT <;> (exact oD)))|(apply SY.buildE;(exact eD);((try simp only [List.map_cons,List.map_nil]);(repeat (first|exact Zq|(apply Zh;(first|exact OpD.t rfl|exact OpD.i|exact OpD.b|exact OpD.tle rfl (by first|exact ZI|exact ZH (by decide))|exact ⟨ZI⟩|exact ⟨ZH (by decide)⟩)))));rfl;rfl;decide;(intro _;exact ZAV);(exact (by simp)))|fail);all_goals infer_instance));dsimp only [ZB,z0,z1])|(apply ZC;(exact oD);all_goals (intro h;try exact xD))|refine WC.skip ?_|refine WC.block ?_|refine ThenD.n ?_));all_goals (first|((repeat clear hK);(repeat clear Kx))))
   all_goals try (exfalso;first|contradiction|omega)
   (refine ⟨(k+1,_) , ?_,by first|omega|(simp only;omega),by ((try simp only);  (rw [List.take_succ_eq_append_getElem hkl,ZGU hkl hk])),?_⟩;rotate_left;((try dsimp only [ZK,z0,z1]);repeat (first|exact LeF.nil|refine ZD (k:=?_)));(try dsimp only))
   omega
  ·rw [List.take_of_length_le (by rw [Z4];omega)]
   ((repeat' (first|((first|apply WL.opN|apply WD.opN);exact yF;dsimp only [ZB,z0,z1])|refine WL.nil ?_|refine ZA fun Kx hK=>?_|(refine hK _ _ ?_;clear hK)|(refine Kont.skip ?_;clear hK)|refine WC.region ?_|((first|apply WL.opN|apply WD.opN);(focus ((first|((first|apply SY.move|apply SY.assign|apply SY.lss) <;> (exact oD))|(apply SY.len;(exact oD);(exact nD);(exact uD))|fail);all_goals infer_instance));dsimp only [ZB,z0,z1])|(apply ZC;(exact oD);all_goals (intro h;try exact xD))|refine WC.ret ?_|refine WC.exit ?_));all_goals (first|((repeat clear hK);(repeat clear Kx))))
   all_goals try (exfalso;first|contradiction|omega)
   exact ⟨trivial,_,[_],rfl,rfl,u,rfl,rfl⟩
theorem ZRp (k:Nat) (hk:k<6):Fn Tryz.prog 69 [dI (k:Int)] (dI ((ZI6 k:Nat):Int)):=by
 have hl:k<([1,1,3,13,75,541]:List Int).length:=hk
 have hv:([1,1,3,13,75,541]:List Int)[k]=((ZI6 k:Nat):Int):=by
  have:k=0\/k=1\/k=2\/k=3\/k=4\/k=5:=by omega
  rcases this with rfl|rfl|rfl|rfl|rfl|rfl <;> rfl
 (refine ZG Tryz.func69 rfl rfl ?_;simp only [Tryz.ntmps69,List.length_cons,List.length_nil,Nat.reduceAdd,Nat.reduceSub,List.replicate_succ,List.replicate_zero,List.cons_append,List.nil_append])
 ((repeat' (first|(apply WL.opN;exact yF;dsimp only [ZB,z0,z1])|refine WL.nil ?_|refine ZA fun Kx hK=>?_|(refine hK _ _ ?_;clear hK)|refine WC.region ?_|(apply WL.opN;(focus ((first|(exact SY.build1' (R:=RI) (_gR:=inferInstance) (els:=[1,1,3,13,75,541]) elI (Zh OpD.i (Zh OpD.i (Zh OpD.i (Zh OpD.i (Zh OpD.i (Zh OpD.i Zq)))))) rfl rfl (fun _=>ZA4) (Nat.le_of_ble_eq_true rfl))|(refine ZBu (R:=RI) (_gR:=inferInstance) elI hl hv (OpD.t rfl) (OpD.t rfl))|fail);all_goals infer_instance));dsimp only [ZB,z0,z1])|refine WC.ret ?_));all_goals (first|((repeat clear hK);(repeat clear Kx))))
 (refine ⟨trivial,_,rfl,?_⟩;exact fD)
def ZDg (fs:Cx) (s:List Vx) (v:Vx):Vx:=(v.1,Z3 0 fs (ZEP s v))
def ZGg (fs:Cx) (s t:List Vx) (j:Nat):List Vx:=(t.take j).map (ZDg fs s)++t.drop j
theorem ZLX {fs:Cx} {s t:List Vx} {j:Nat} (h:j≤t.length):(ZGg fs s t j).length=t.length:=by unfold ZGg;simp;omega
theorem ZOU {fs:Cx} {s t:List Vx} {j:Nat} (h:j<t.length) (h':j<(ZGg fs s t j).length):(ZGg fs s t j)[j]=t[j]:=by
 have e:(ZGg fs s t j)[j]?=some t[j]:=by
  unfold ZGg
  rw [List.getElem?_append_right (by simp;omega)]
  simp [Nat.min_eq_left (Nat.le_of_lt h),h]
 exact (List.getElem?_eq_some_iff.1 e).2
theorem ZQu {fs:Cx} {s t:List Vx} {j:Nat} (h:j<t.length) (h':j<(ZGg fs s t (j+1)).length):(ZGg fs s t (j+1))[j]=ZDg fs s t[j]:=by
 have e:(ZGg fs s t (j+1))[j]?=some (ZDg fs s t[j]):=by
  unfold ZGg
  rw [List.getElem?_append_left (by simp;omega)]
  simp [h]
 exact (List.getElem?_eq_some_iff.1 e).2
theorem ZQw {fs:Cx} {s t:List Vx} {j:Nat} (h:j<t.length) (h':j<(ZGg fs s t j).length):(ZGg fs s t j).set j ((ZGg fs s t j)[j].1,Z3 0 fs (ZEP s t[j]))=ZGg fs s t (j+1):=by
 rw [ZOU h h']
 unfold ZGg
 have hd:t.drop j=t[j]::t.drop (j+1):=List.drop_eq_getElem_cons h
 have hl:((t.take j).map (ZDg fs s)).length=j:=by simp;omega
 rw [List.set_append_right _ _ (by omega),hl,Nat.sub_self,hd,ZP h,List.map_append,List.append_assoc]
 rfl
theorem ZQv {fs:Cx} {s t:List Vx} {j:Nat} (h:t.length≤j):ZGg fs s t j=t.map (ZDg fs s):=by
 unfold ZGg
 rw [List.take_of_length_le h,List.drop_of_length_le h,List.append_nil]
def ZEX (fs:Cx) (s:List Vx) (d:List (Vx × List Vx)) (t:List Vx):List (Vx × List Vx):=t.foldl (fun d v=>ZE7 d (ZDg fs s v) (ZEP s v)) d
theorem ZMG {fs:Cx} {s:List Vx} {d:List (Vx × List Vx)} {t:List Vx} {j:Nat} (h:j<t.length):ZEX fs s d (t.take (j+1))=ZE7 (ZEX fs s d (t.take j)) (ZDg fs s t[j]) (ZEP s t[j]):=by
 unfold ZEX;rw [ZP h,List.foldl_append];rfl
theorem ZGH (fs:Cx) (s:List Vx):∀ (t:List Vx) (d:List (Vx × List Vx)),(ZEX fs s d t).length≤d.length+t.length
 | [],d=>by simp [ZEX]
 | v::t,d=>by
  have h1:=ZGH fs s t (ZE7 d (ZDg fs s v) (ZEP s v))
  have h2:=ZLn d (ZDg fs s v) (ZEP s v)
  show (ZEX fs s (ZE7 d (ZDg fs s v) (ZEP s v)) t).length≤_
  simp only [List.length_cons]
  omega
def ZJc (fs:Cx) (s:List Vx) (A:Cx × List (Vx × List Vx)) (t:List Vx):Cx × List (Vx × List Vx):=(ZFL A.1 (t.map (ZDg fs s)),ZEX fs s A.2 t)
def ZHF (fs:Cx) (s:List Vx) (A:Cx × List (Vx × List Vx)) (F:Cx):Cx × List (Vx × List Vx):=F.foldl (ZJc fs s) A
theorem ZPD {fs:Cx} {s:List Vx} {A:Cx × List (Vx × List Vx)} {F:Cx} {k:Nat} (h:k<F.length):ZHF fs s A (F.take (k+1))=ZJc fs s (ZHF fs s A (F.take k)) F[k]:=by
 unfold ZHF;rw [ZP h,List.foldl_append];rfl
theorem ZIG (fs:Cx) (s:List Vx):∀ (F:Cx) (A:Cx × List (Vx × List Vx)),(∀ t∈F,t.length≤5)->(ZHF fs s A F).1.length≤A.1.length+F.length/\(ZHF fs s A F).2.length≤A.2.length+5*F.length
 | [],A,_=>by simp [ZHF]
 | t::F,A,h=>by
  obtain ⟨h1,h2⟩:=ZIG fs s F (ZJc fs s A t) fun u hu=>h u (by simp [hu])
  have h3:=ZGH fs s t A.2
  have h4:=h t (by simp)
  have h5:=(ZLk A.1 (t.map (ZDg fs s))).2
  have e:ZHF fs s A (t::F)=ZHF fs s (ZJc fs s A t) F:=rfl
  rw [e]
  simp only [List.length_cons]
  unfold ZJc at h1 h2 ⊢
  simp only at h1 h2 ⊢
  omega
def ZDR (fs l:Cx):Cx × List (Vx × List Vx):=l.foldl (fun A s=>ZHF fs s A (ZBq s)) ([],[])
theorem ZJg {fs l:Cx} {i:Nat} (h:i<l.length):ZDR fs (l.take (i+1))=ZHF fs l[i] (ZDR fs (l.take i)) (ZBq l[i]):=by
 unfold ZDR;rw [ZP h,List.foldl_append];rfl
theorem ZLy (fs l:Cx) (h5:∀ s∈l,s.length≤5):∀ i,i≤l.length->(ZDR fs (l.take i)).1.length≤ZC6 (l.take i)/\(ZDR fs (l.take i)).2.length≤5*ZC6 (l.take i)
 | 0,_=>by simp [ZDR]
 | i+1,h=>by
  have hi:i<l.length:=by omega
  obtain ⟨h1,h2⟩:=ZLy fs l h5 i (by omega)
  have h3:=h5 _ (List.getElem_mem hi)
  have h4:=ZIG fs l[i] (ZBq l[i]) (ZDR fs (l.take i)) fun t ht=>by rw [ZFc ht];exact h3
  have h6:(ZBq l[i]).length=ZI6 l[i].length:=by unfold ZBq;rw [List.length_map];exact ZN2 ⟨l[i].length,by omega⟩
  rw [ZJg hi,ZEn hi]
  omega
def ZCn (l:Cx):Int:=if l.all Z0=false then 3 else if l.any (fun s=>decide (5<s.length))=true then 5 else if 4096<ZC6 l then 5 else 0
def ZRP (l:Cx):Sub × Int:=if ZCn l≠0 then (([],[],[]),ZCn l) else (((ZDR (Zr l) l).1,(ZDR (Zr l) l).2.map (·.1),(ZDR (Zr l) l).2.map (·.2)),0)
end
end Go.Proofs.YtlgmojhmmbhgfaaGreatDoor
