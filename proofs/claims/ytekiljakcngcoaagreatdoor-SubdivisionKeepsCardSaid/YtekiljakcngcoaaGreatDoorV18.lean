/- Part 18: walks by contracts, and plain laws. -/
import Derived.Test.YtekiljakcngcoaaGreatDoorV17
set_option linter.unusedVariables false
set_option linter.unusedSimpArgs false
set_option linter.unusedSectionVars false
set_option maxRecDepth 100000
set_option maxHeartbeats 4000000
namespace Go.Proofs.YtekiljakcngcoaaGreatDoor
section
open Go.RowKit

def ZBp:List Vx->List Vx->Bool
 | [],_=>true
 | v::a,b=>if (b.dropWhile fun x=>decide (x≠v))=[] then false else ZBp a (b.dropWhile fun x=>decide (x≠v))
theorem ZMo {v x:Vx} {a c:List Vx} (h:x≠v):ZBp (v::a) (x::c)=ZBp (v::a) c:=by
 unfold ZBp
 rw [List.dropWhile_cons_of_pos (by simpa using h)]
theorem ZOe {v:Vx} {a c:List Vx}:ZBp (v::a) (v::c)=ZBp a (v::c):=by
 conv=>lhs;unfold ZBp
 rw [List.dropWhile_cons_of_neg (by simp)]
 simp
theorem ZOd {v:Vx} {a:List Vx}:ZBp (v::a) []=false:=by unfold ZBp;simp
theorem ZLn (a b:List Vx):Fn Tryz.prog 91 [dS ZI a,dS ZI b] (dB (ZBp a b)):=by
 (refine ZH Tryz.func91 rfl rfl ?_;simp only [Tryz.ntmps91,List.length_cons,List.length_nil,Nat.reduceAdd,Nat.reduceSub,List.replicate_succ,List.replicate_zero,List.cons_append,List.nil_append])
 (repeat' (first|((first|apply WL.opN|apply WD.opN);exact yF;dsimp only [ZA,z0,z1])|refine WL.nil ?_|refine ZC fun Kx hK=>?_|(refine hK _ _ ?_;clear hK)|refine WC.region ?_|((first|apply ZS|apply WD.op);(focus (first|exact wN|(apply SYG.yes;(exact wY);((first|exact ZBq|fail);all_goals infer_instance))));dsimp only [ZA,z0,z1])|refine WC.block ?_))
 (first|refine Ze (t:=0) rfl ZFf fun hl0=>?_|refine Ze (t:=0) rfl ZFe fun hl0=>?_|refine Ze (t:=0) rfl ZQC fun hl0=>?_);simp only [maxLen] at hl0
 (refine WC.loopU (X:=Nat × List Vx) (fun x=>[(9,dI (x.1:Int)),(1,dS ZI x.2),(4,dA),(6,dA),(10,dA),(11,dA),(12,dA),(13,dA),(14,dA),(15,dA),(16,dA),(17,dA),(18,dA),(19,dA),(20,dA),(21,dA),(22,dA),(23,dA),(24,dA),(25,dA),(26,dA),(27,dA),(28,dA)]) (fun x=>[]) (fun x=>a.length-x.1) (fun x=>x.1≤a.length/\ZBp a b=ZBp (a.drop x.1) x.2) (0,b) ?start ?frame0 ?objs0 ?round)
 case start=>exact ⟨Nat.zero_le _,rfl⟩
 case frame0=>((try dsimp only [Za,z0,z1]);repeat (first|exact LeF.nil|refine ZF (k:=?_)))
 case objs0=>rfl
 case round =>
  rintro ⟨k,c⟩ ⟨h1,h2⟩
  simp only at h1 h2
  dsimp only [Za,z0,z1]
  ((repeat' (first|((first|apply WL.opN|apply WD.opN);exact yF;dsimp only [ZA,z0,z1])|refine WL.nil ?_|refine ZC fun Kx hK=>?_|(refine hK _ _ ?_;clear hK)|(refine Kont.skip ?_;clear hK)|refine WC.region ?_|(apply WL.alloc;(first|exact tzV|exact tzC);(first|exact ZN rfl|exact ZW|exact ZX rfl);(intro _;dsimp only [ZA,z0,z1]))|(apply ZG;(exact tD);rfl;(exact oD);(exact hD);dsimp only [ZA,z0,z1])|((first|apply ZS|apply WD.op);(focus (first|exact wN|(apply SYG.yes;(exact wY);((first|exact ZBy|exact Zg|fail);all_goals infer_instance))));dsimp only [ZA,z0,z1])|(apply ZE;(exact oD);all_goals (intro h;try exact xD))|refine WC.skip ?_|refine WC.ret ?_|refine WC.exit ?_|refine WC.block ?_));all_goals (first|refine WC.id ?_|((repeat clear hK);(repeat clear Kx))))
  ·(refine WC.loopU (X:=List Vx) (fun c'=>[(1,dS ZI c'),(13,dA),(14,dA),(15,dA),(16,dA),(17,dA),(18,dA),(19,dA),(20,dA),(21,dA),(22,dA),(23,dA),(24,dA)]) (fun c'=>[]) (fun c'=>c'.length) (fun c'=>c'.length≤c.length/\ZBp a b=ZBp (a.drop k) c') c ?start ?frame0 ?objs0 ?round)
   case start=>exact ⟨Nat.le_refl _,h2⟩
   case frame0=>((try dsimp only [Za,z0,z1]);repeat (first|exact LeF.nil|refine ZF (k:=?_)))
   case objs0=>rfl
   case round =>
    rintro c' ⟨h3,h4⟩
    dsimp only [Za,z0,z1]
    ((repeat' (first|((first|apply WL.opN|apply WD.opN);exact yF;dsimp only [ZA,z0,z1])|refine WL.nil ?_|refine WD.nil ?_|refine ZC fun Kx hK=>?_|(refine hK _ _ ?_;clear hK)|(refine Kont.skip ?_;clear hK)|refine WC.region ?_|(apply WC.draw;kernel_rfl;kernel_rfl)|((first|apply ZS|apply WD.op);(focus (first|exact wN|(apply SYG.yes;(exact wY);((first|(apply ZDw elV (OpD.t rfl) OpD.i 0 rfl;omega)|(apply ZLA elV (OpD.t rfl) OpD.i 1 rfl;omega)|exact ZD6|exact ZIh|exact ZNA|exact ZFc|exact ZCk|exact ZFO|exact ZBq|exact ZFP|fail);all_goals infer_instance))));dsimp only [ZA,z0,z1])|((first|refine Zl rfl rfl rfl (fun h=>?_) (fun h=>?_)|refine Zk rfl rfl rfl (fun h=>?_) (fun h=>?_)|refine Zj rfl rfl rfl (fun h=>?_) (fun h=>?_)|refine ZAS rfl rfl rfl (fun h=>?_) (fun h=>?_)|refine ZAR rfl rfl rfl (fun h=>?_) (fun h=>?_)|refine Z9 rfl rfl rfl (fun h=>?_) (fun h=>?_)) <;> (first|(exfalso;first|omega|contradiction)|(dsimp only [z0,z1])))|(apply ZK;(exact oD);(with_reducible rfl))|(apply ZE;(exact oD);all_goals (intro h;try exact xD))|(apply WC.condN;(exact oD);all_goals (intro h;try exact xD))|refine WC.skip ?_|refine WC.ret ?_|refine WC.exit ?_|refine WC.block ?_|refine ThenD.n ?_|refine ThenD.r ?_|refine InBlockD.n ?_|refine InBlockD.r ?_));all_goals (first|((repeat clear hK);(repeat clear Kx))))
    all_goals rw [List.drop_eq_getElem_cons (show k<a.length by omega)] at h4
    ·have hc:c'=c'[0]::c'.drop 1:=by
      have:=List.drop_eq_getElem_cons (show 0<c'.length by omega)
      rwa [List.drop_zero] at this
     have hd:(c'.drop 1).length=c'.length-1:=List.length_drop
     (refine ⟨c'.drop 1,?_,by first|omega|(simp only;omega),rfl,?_⟩;rotate_left;((try dsimp only [Za,z0,z1]);repeat (first|exact LeF.nil|refine ZF (k:=?_)));(try dsimp only))
     refine ⟨by omega,?_⟩
     rw [List.drop_eq_getElem_cons (show k<a.length by omega),h4]
     conv=>lhs;rw [hc]
     exact ZMo h
    ·have hc:c'=a[k]::c'.drop 1:=by
      have:=List.drop_eq_getElem_cons (show 0<c'.length by omega)
      rw [List.drop_zero] at this
      rw [this];congr 1
     (refine ⟨(k+1,c'),?_,by first|omega|(simp only;omega),rfl,?_⟩;rotate_left;((try dsimp only [Za,z0,z1]);repeat (first|exact LeF.nil|refine ZF (k:=?_)));(try dsimp only))
     refine ⟨by omega,?_⟩
     show _=ZBp (a.drop (k+1)) c'
     rw [h4]
     conv=>lhs;rw [hc,ZOe]
     rw [<- hc]
    ·have hc:c'=[]:=List.eq_nil_of_length_eq_zero (by omega)
     (refine ⟨trivial,_,rfl,?_⟩;refine FinD.b ?_)
     rw [h4,hc,ZOd]
  ·rw [List.drop_of_length_le (by omega)] at h2
   (refine ⟨trivial,_,rfl,?_⟩;refine FinD.b ?_)
   rw [h2];rfl
end
section
open Go.RowKit

abbrev ZQ0 (s:Cx) (p:List Vx->Bool):Dat:=ZMm Tryz.prog (fun v:{v:List Vx // v∈s}=>[dS ZI v.1]) (fun v=>dB (p v.1))
set_option maxHeartbeats 1000000 in
theorem ZOk (s:Cx) (p:List Vx->Bool) (hl:s.length≤1000000):Fn Tryz.prog 97 [dS ZAe s,ZQ0 s p] (dS ZAe (s.filter p)):=by
 (refine ZH Tryz.func97 rfl rfl ?_;simp only [Tryz.ntmps97,List.length_cons,List.length_nil,Nat.reduceAdd,Nat.reduceSub,List.replicate_succ,List.replicate_zero,List.cons_append,List.nil_append])
 (repeat' (first|(apply WL.opN;exact yF;dsimp only [ZA,z0,z1])|refine WL.nil ?_|refine ZC fun Kx hK=>?_|(refine hK _ _ ?_;clear hK)|refine WC.region ?_|(apply WL.opN;(focus ((first|exact ZBq|fail);all_goals infer_instance));dsimp only [ZA,z0,z1])|refine WC.block ?_))
 refine ZEF 28 ZI ?_
 (refine WC.loopU (X:=Nat × Value × Cx) (fun x=>[(5,dX x.2.1),(10,dI (x.1:Int)),(7,dA),(11,dA),(12,dA),(13,dA),(14,dA),(15,dA),(16,dA),(17,dA),(18,dA),(19,dA),(20,dA),(21,dA)]) (fun x=>[Zr x.2.1 28 ZI x.2.2]) (fun x=>s.length-x.1) (fun x=>x.1≤s.length/\x.2.2=(s.take x.1).filter p) (0,.slice none 0 0,[]) ?start ?frame0 ?objs0 ?round)
 case start=>exact ⟨Nat.zero_le _,by simp⟩
 case frame0=>((try dsimp only [Za,z0,z1]);repeat (first|exact LeF.nil|refine ZF (k:=?_)))
 case objs0=>rfl
 case round =>
  rintro ⟨k,u,o⟩ ⟨h1,h2⟩
  dsimp only [Za,z0,z1]
  simp only at h1 h2
  have hol:o.length≤1000000:=by
   have h5:=List.length_filter_le p (s.take k)
   rw [List.length_take] at h5
   rw [h2];omega
  ((repeat' (first|(apply WL.opN;exact yF;dsimp only [ZA,z0,z1])|refine WL.nil ?_|refine ZC fun Kx hK=>?_|(refine hK _ _ ?_;clear hK)|(refine Kont.skip ?_;clear hK)|refine WC.region ?_|((first|apply ZO|apply ZM);(exact eD);exact OpD.t rfl;(exact oD);(intro _;exact hD);(exact (by simp));(exact (by simp));(first|exact ⟨by decide,by decide⟩|skip);decide;(exact lD);(intro _;dsimp only [ZA,z0,z1]);all_goals (try infer_instance))|(apply WL.opN;(focus ((first|(apply ZBd (x:=(⟨s[k],List.getElem_mem _⟩:{v:List Vx // v∈s}));(exact OpD.t rfl);(exact aD))|exact ZBy|exact ZCk|exact Zg|fail);all_goals infer_instance));dsimp only [ZA,z0,z1])|(apply ZE;(exact oD);all_goals (intro h;try exact xD))|(apply WC.cond;(exact oD);all_goals (intro h;try exact xD))|refine WC.skip ?_|refine WC.ret ?_|refine WC.exit ?_|refine WC.block ?_|refine ThenD.n ?_));all_goals (first|((repeat clear hK);(repeat clear Kx))))
  ·(refine ⟨(k+1,_,o++[s[k]]),?_,by first|omega|(simp only;omega),rfl,?_⟩;rotate_left;((try dsimp only [Za,z0,z1]);repeat (first|exact LeF.nil|refine ZF (k:=?_)));(try dsimp only))
   refine ⟨by omega,?_⟩
   show o++[s[k]]=_
   rw [ZEY (by omega),if_pos h,<- h2]
  ·(refine ⟨(k+1,u,o),?_,by first|omega|(simp only;omega),rfl,?_⟩;rotate_left;((try dsimp only [Za,z0,z1]);repeat (first|exact LeF.nil|refine ZF (k:=?_)));(try dsimp only))
   refine ⟨by omega,?_⟩
   show o=_
   rw [ZEY (by omega),if_neg (by rw [h];exact Bool.false_ne_true),List.append_nil,<- h2]
  ·rw [List.take_of_length_le (by omega)] at h2
   subst h2
   (refine ⟨trivial,_,rfl,?_⟩;exact fD)
end
section
open Go.RowKit

theorem ZNo (f s:List Vx):Fn Tryz.prog 98 ([dS ZI f]++[dP 1 false (dS ZI s)]) (dB (ZBp s f)):=by
 show Fn Tryz.prog 98 [dS ZI f,dP 1 false (dS ZI s)] (dB (ZBp s f))
 (refine ZH Tryz.func98 rfl rfl ?_;simp only [Tryz.ntmps98,List.length_cons,List.length_nil,Nat.reduceAdd,Nat.reduceSub,List.replicate_succ,List.replicate_zero,List.cons_append,List.nil_append])
 ((repeat' (first|(apply WL.opN;exact yF;dsimp only [ZA,z0,z1])|refine WL.nil ?_|refine ZC fun Kx hK=>?_|(refine hK _ _ ?_;clear hK)|refine WC.region ?_|(apply WL.opN;(focus ((first|(apply SY.call (ZLn _ _) Tryz.call91;(exact aD))|fail);all_goals infer_instance));dsimp only [ZA,z0,z1])|refine WC.ret ?_));all_goals (first|((repeat clear hK);(repeat clear Kx))))
 all_goals (refine ⟨trivial,_,rfl,?_⟩;exact fD)
abbrev MemS (l:Cx):={v:List Vx // v∈l}
theorem ZQi (l:Cx) (s:List Vx) (hl:l.length≤1000000):Fn Tryz.prog 73 [dS Cpx l,dS ZI s] (dS ZAe (l.filter (ZBp s))):=by
 (refine ZH Tryz.func73 rfl rfl ?_;simp only [Tryz.ntmps73,List.length_cons,List.length_nil,Nat.reduceAdd,Nat.reduceSub,List.replicate_succ,List.replicate_zero,List.cons_append,List.nil_append])
 ((repeat' (first|(apply WL.opN;exact yF;dsimp only [ZA,z0,z1])|refine WL.nil ?_|refine ZC fun Kx hK=>?_|(refine hK _ _ ?_;clear hK)|refine WC.region ?_|(apply WL.opN;(focus ((first|(apply ZE0 (A:=fun v:MemS l=>[dS ZI v.1]) (r:=fun v=>dB (ZBp s v.1)) Tryz.call98 (fun v=>ZNo v.1 s) (fun _=>ZSK);(exact aD))|(apply SY.call (ZOk l (ZBp s) hl) Tryz.call97;(exact aD))|exact Z8|exact ZG4|fail);all_goals infer_instance));dsimp only [ZA,z0,z1])|refine WC.ret ?_));all_goals (first|((repeat clear hK);(repeat clear Kx))))
 all_goals (refine ⟨trivial,_,rfl,?_⟩;exact fD)
abbrev ZSV (at':List Int) (p:Int->Bool):Dat:=ZMm Tryz.prog (fun i:{i:Int // i∈at'}=>[dI i.1]) (fun i=>dB (p i.1))
theorem ZU6 (l:List Int) (p:Int->Bool):Fn Tryz.prog 92 [dS ZCC l,ZSV l p] (dI (ZIk p 0 l)):=by
 (refine ZH Tryz.func92 rfl rfl ?_;simp only [Tryz.ntmps92,List.length_cons,List.length_nil,Nat.reduceAdd,Nat.reduceSub,List.replicate_succ,List.replicate_zero,List.cons_append,List.nil_append])
 (repeat' (first|(apply WL.opN;exact yF;dsimp only [ZA,z0,z1])|refine WL.nil ?_|refine ZC fun Kx hK=>?_|(refine hK _ _ ?_;clear hK)|refine WC.region ?_|(apply WL.opN;(focus ((first|exact ZBq|fail);all_goals infer_instance));dsimp only [ZA,z0,z1])|refine WC.block ?_))
 (first|refine Ze (t:=0) rfl ZFf fun hl0=>?_|refine Ze (t:=0) rfl ZFe fun hl0=>?_|refine Ze (t:=0) rfl ZQC fun hl0=>?_);simp only [maxLen] at hl0
 (refine WC.loopU (X:=Nat) (fun k=>[(8,dI (k:Int)),(4,dA),(5,dA),(9,dA),(10,dA),(11,dA),(12,dA),(13,dA),(14,dA),(15,dA),(16,dA),(17,dA),(18,dA)]) (fun k=>[]) (fun k=>l.length-k) (fun k=>k≤l.length/\ZIk p 0 l=ZIk p k (l.drop k)) 0 ?start ?frame0 ?objs0 ?round)
 case start=>exact ⟨Nat.zero_le _,rfl⟩
 case frame0=>((try dsimp only [Za,z0,z1]);repeat (first|exact LeF.nil|refine ZF (k:=?_)))
 case objs0=>rfl
 case round =>
  rintro k ⟨h1,h2⟩
  dsimp only [Za,z0,z1]
  ((repeat' (first|(apply WL.opN;exact yF;dsimp only [ZA,z0,z1])|refine WL.nil ?_|refine ZC fun Kx hK=>?_|(refine hK _ _ ?_;clear hK)|(refine Kont.skip ?_;clear hK)|refine WC.region ?_|(apply WL.opN;(focus ((first|(apply ZBd (x:=(⟨l[k],List.getElem_mem _⟩:{i:Int // i∈l}));(exact OpD.t rfl);(exact aD))|exact ZBy|exact ZCk|exact Zg|fail);all_goals infer_instance));dsimp only [ZA,z0,z1])|(apply ZE;(exact oD);all_goals (intro h;try exact xD))|(apply WC.cond;(exact oD);all_goals (intro h;try exact xD))|refine WC.skip ?_|refine WC.ret ?_|refine WC.exit ?_|refine WC.block ?_|refine ThenD.n ?_|refine ThenD.r ?_|refine InBlockD.r ?_));all_goals (first|((repeat clear hK);(repeat clear Kx))))
  ·(refine ⟨trivial,_,rfl,?_⟩;refine FinD.i ?_)
   rw [h2,ZEc (by omega),if_pos h]
  ·(refine ⟨k+1,?_,by first|omega|(simp only;omega),rfl,?_⟩;rotate_left;((try dsimp only [Za,z0,z1]);repeat (first|exact LeF.nil|refine ZF (k:=?_)));(try dsimp only))
   exact ⟨by omega,by rw [h2,ZEc (by omega),if_neg (by simp [h])]⟩
  ·(refine ⟨trivial,_,rfl,?_⟩;refine FinD.i ?_)
   rw [h2,List.drop_of_length_le (by omega)];rfl
theorem ZOM (l:List Int) (p:Int->Bool):Fn Tryz.prog 67 [dS ZCC l,ZSV l p] (dB (l.any p)):=by
 (refine ZH Tryz.func67 rfl rfl ?_;simp only [Tryz.ntmps67,List.length_cons,List.length_nil,Nat.reduceAdd,Nat.reduceSub,List.replicate_succ,List.replicate_zero,List.cons_append,List.nil_append])
 ((repeat' (first|(apply WL.opN;exact yF;dsimp only [ZA,z0,z1])|refine WL.nil ?_|refine ZC fun Kx hK=>?_|(refine hK _ _ ?_;clear hK)|refine WC.region ?_|(apply WL.opN;(focus ((first|(apply SY.call (ZU6 _ _) Tryz.call92;(exact aD))|exact ZS0|fail);all_goals infer_instance));dsimp only [ZA,z0,z1])|refine WC.ret ?_));all_goals (first|((repeat clear hK);(repeat clear Kx))))
 all_goals ((refine ⟨trivial,_,rfl,?_⟩;refine FinD.b ?_);exact ZH9 _ _)
end
section
open Go.RowKit

def ZQy (l:Cx) (s:List Vx) (i:Int):Bool:=decide (s.length<(l.getD i.toNat []).length) && ZBp s (l.getD i.toNat [])
theorem ZUi (l:Cx) (s:List Vx) (i:Int) (h0:0≤i) (h1:i<l.length):Fn Tryz.prog 90 ([dI i]++[dP 1 false (dS ZAe l),dP 1 false (dS ZI s)]) (dB (ZQy l s i)):=by
 obtain ⟨k,rfl⟩:∃ k:Nat,i=k:=⟨i.toNat,by omega⟩
 have hk:k<l.length:=by omega
 have e:ZQy l s (k:Int)=(decide (s.length<l[k].length) && ZBp s l[k]):=by
  unfold ZQy
  rw [Int.toNat_natCast,show l.getD k []=l[k] by simp [List.getD,hk]]
 rw [e]
 show Fn Tryz.prog 90 [dI (k:Int),dP 1 false (dS ZAe l),dP 1 false (dS ZI s)] _
 (refine ZH Tryz.func90 rfl rfl ?_;simp only [Tryz.ntmps90,List.length_cons,List.length_nil,Nat.reduceAdd,Nat.reduceSub,List.replicate_succ,List.replicate_zero,List.cons_append,List.nil_append])
 ((repeat' (first|((first|apply WL.opN|apply WD.opN);exact yF;dsimp only [ZA,z0,z1])|refine WL.nil ?_|refine WD.nil ?_|refine ZC fun Kx hK=>?_|(refine hK _ _ ?_;clear hK)|refine WC.region ?_|(apply WC.draw;kernel_rfl;kernel_rfl)|((first|apply ZS|apply WD.op);(focus (first|exact wN|(apply SYG.yes;(exact wY);((first|(apply SY.call (ZLn _ _) Tryz.call91;(exact aD))|exact ZD6|exact ZIh|exact ZFO|exact ZBq|exact Zg|exact ZFP|fail);all_goals infer_instance))));dsimp only [ZA,z0,z1])|((first|refine Zl rfl rfl rfl (fun h=>?_) (fun h=>?_)|refine Zk rfl rfl rfl (fun h=>?_) (fun h=>?_)|refine Zj rfl rfl rfl (fun h=>?_) (fun h=>?_)|refine ZAS rfl rfl rfl (fun h=>?_) (fun h=>?_)|refine ZAR rfl rfl rfl (fun h=>?_) (fun h=>?_)|refine Z9 rfl rfl rfl (fun h=>?_) (fun h=>?_)) <;> (first|(exfalso;first|omega|contradiction)|(dsimp only [z0,z1])))|refine WC.ret ?_));all_goals (first|((repeat clear hK);(repeat clear Kx))))
 ·rw [decide_eq_true (show s.length<l[k].length by omega),Bool.true_and]
  (refine ⟨trivial,_,rfl,?_⟩;exact fD)
 ·rw [decide_eq_false (show ¬ s.length<l[k].length by omega),Bool.false_and]
  (refine ⟨trivial,_,rfl,?_⟩;exact fD)
abbrev MemI (l:List Int):={v:Int // v∈l}
theorem ZE8 (l:Cx) (at':List Int) (s:List Vx) (hat:∀ i∈at',0≤i/\i<l.length):Fn Tryz.prog 65 [dS ZAe l,dS ZCC at',dS ZI s] (dB (at'.any (ZQy l s))):=by
 (refine ZH Tryz.func65 rfl rfl ?_;simp only [Tryz.ntmps65,List.length_cons,List.length_nil,Nat.reduceAdd,Nat.reduceSub,List.replicate_succ,List.replicate_zero,List.cons_append,List.nil_append])
 ((repeat' (first|(apply WL.opN;exact yF;dsimp only [ZA,z0,z1])|refine WL.nil ?_|refine ZC fun Kx hK=>?_|(refine hK _ _ ?_;clear hK)|refine WC.region ?_|(apply WL.opN;(focus ((first|(apply ZE0 (A:=fun v:MemI at'=>[dI v.1]) (r:=fun v=>dB (ZQy l s v.1)) Tryz.call90 (fun v=>ZUi l s v.1 (hat v.1 v.2).1 (hat v.1 v.2).2) (fun _=>ZSK);(exact aD))|(apply SY.call (ZOM at' (ZQy l s)) Tryz.call67;(exact aD))|exact ZG4|fail);all_goals infer_instance));dsimp only [ZA,z0,z1])|refine WC.ret ?_));all_goals (first|((repeat clear hK);(repeat clear Kx))))
 all_goals (refine ⟨trivial,_,rfl,?_⟩;exact fD)
end
section
open Go.RowKit

theorem ZMV {P:Program} {f:FuncId} {ds:List Dat} {hp1:List HObj} {e:TypeId} {α:Type} {R:Rel α} {_gR:Good R} {xs:List α} (h:CallC P f ds hp1 fun d' hp2=>∃ v,d'=dX v/\(hp2=[Zr v e R xs]\/v = .slice none 0 0/\xs=[]/\hp2=[])):CallC P f ds hp1 fun d' hp2=>∃ v,d'=dX v/\hp2=[Zr v e R xs]:=⟨fun P0 B w0 hp vs W hh hl hv=>by
 refine Calls.mono (h.out P0 B w0 hp vs W hh hl hv) fun e' W' ⟨v,d,hp2,he,hk,hh2,hd⟩=>?_
 obtain ⟨u,hdu,hk⟩:=hk
 rcases hk with rfl|⟨rfl,rfl,rfl⟩
 ·exact ⟨v,d,_,he,⟨u,hdu,rfl⟩,hh2,hd⟩
 ·exact ⟨v,d,[Zr (.slice none 0 0) e R []],he,⟨_,hdu,rfl⟩,hh2.push (Ext.refl _) (by simp [Zr,Value.ownBlock]) Own.nil,Z6 (Ext.refl _) (by simp [Zr,Value.ownBlock]) hd⟩⟩
theorem ZUn:∀ (x y:Operand) ad m c w,(do eqGuard .eql 22 x y (.slice ad m c) (.slice none 0 0);Go.binOp .eql 22 (.slice ad m c) (.slice none 0 0)).run Tryz.prog w = .ok (.bool ad.isNone) w:=by
 intro x y ad m c w
 cases ad <;> (go_simp;try (unfold Go.binOp;simp only;unfold Op.equal Op.maxDepth Op.equalIn;simp [run_underlying Tryz.underlying22]))
theorem nil_A {α:Type} {R:Rel α} [Good R] {xs:List α} {I:Nat->Prop} {w:World} {v:Value} (h:(dS (Arr R) xs).rd I w v):∃ a m c,v = .slice a m c/\(a=none->m=0):=by
 obtain ⟨ad,cap,rfl,h1,h2,h3⟩:=(h:Arr R I w v xs)
 refine ⟨_,_,_,rfl,fun hn=>?_⟩
 rcases Nat.eq_zero_or_pos xs.length with hz|hz
 ·exact hz
 ·obtain ⟨us,b,off,_,_,had,_,_⟩:=h3 0 hz
  rw [hn] at had;cases had
theorem ZTX (xs:Cx) (hl:xs.length≤1000000):CallC Tryz.prog 104 [dS ZAe xs] [] fun d' hp2=>∃ v,d'=dX v/\hp2=[Zr v 28 ZI xs]:=by
 refine ZMV ?_
 (refine ZAD Tryz.func104 rfl rfl (fun hp=>?_);simp only [Tryz.ntmps104,List.length_cons,List.length_nil,List.length_append,List.length_map,Nat.reduceAdd,Nat.reduceSub,List.replicate_succ,List.replicate_zero,List.cons_append,List.nil_append,List.map_cons,List.map_nil,List.append_assoc])
 ((repeat' (first |  (refine ZHd 4 rfl fun b hb=>?_;dsimp only [z0,z1])|(apply WL.opN;exact yF;dsimp only [ZA,z0,z1])|refine WL.nil ?_|refine ZC fun Kx hK=>?_|(refine hK _ _ ?_;clear hK)|refine WC.region ?_ |  (apply ZG7 ZDz ZI;(intro _;dsimp only [ZA,z0,z1]);all_goals (try infer_instance))|((first|apply WL.appK|apply WL.app1);(exact eD);exact OpD.t rfl;(exact oD);decide;(exact lD);(intro _;dsimp only [ZA,z0,z1]);all_goals (try infer_instance))|(apply WL.opN;(focus ((first|(apply ZHX;exact OpD.t rfl;(exact fun _ _ _ h=>nil_A h);exact ZKr;exact ZUn)|fail);all_goals infer_instance));dsimp only [ZA,z0,z1])|(apply WC.cond;(exact oD);all_goals (intro h;try exact xD))|refine WC.skip ?_|refine WC.ret ?_|refine ThenD.r ?_));all_goals (first|((repeat clear hK);(repeat clear Kx))))
 ·exact ⟨trivial,_,[],rfl,rfl,_,rfl,.inr ⟨rfl,hb h,rfl⟩⟩
 ·exact ⟨trivial,_,[_],rfl,rfl,_,rfl,.inl (by rw [List.nil_append])⟩
abbrev dEqL:Dat:=ZMm Tryz.prog (fun x:List Vx × List Vx=>[dS ZI x.1,dS ZI x.2]) (fun x=>dB (decide (x.1=x.2)))
set_option maxHeartbeats 4000000 in
theorem ZOO (xs:Cx) (v:Value) (hs:ZTC xs) (hl:xs.length≤1000000):CallC Tryz.prog 105 [dX v,dEqL] [Zr v 28 ZI xs] fun d' hp2=>∃ v zs,(AscL zs/\∀ u,u∈zs↔u∈xs)/\d'=dX v/\hp2=[Zr v 28 ZI zs]:=by
 (refine ZAD Tryz.func105 rfl rfl (fun hp=>?_);simp only [Tryz.ntmps105,List.length_cons,List.length_nil,List.length_append,List.length_map,Nat.reduceAdd,Nat.reduceSub,List.replicate_succ,List.replicate_zero,List.cons_append,List.nil_append,List.map_cons,List.map_nil,List.append_assoc])
 rcases Nat.lt_or_ge xs.length 2 with hx|hx
 ·have ha:AscL xs:=by
   match xs,hx with
   | [],_=>simp [AscL]
   | [x],_=>simp [AscL]
   | x::y::l,hx=>simp at hx;omega
  ((repeat' (first|((first|apply WL.opN|apply WD.opN);exact yF;dsimp only [ZA,z0,z1])|refine WL.nil ?_|refine ZC fun Kx hK=>?_|(refine hK _ _ ?_;clear hK)|refine WC.region ?_|((first|apply WL.opN|apply WD.opN);(focus ((first|exact ZBy|exact ZBq|fail);all_goals infer_instance));dsimp only [ZA,z0,z1])|(apply ZE;(exact oD);all_goals (intro h;try exact xD))|refine WC.ret ?_|refine ThenD.r ?_));all_goals (first|((repeat clear hK);(repeat clear Kx))))
  exact ⟨trivial,_,[_],rfl,rfl,_,xs,⟨ha,fun _=>Iff.rfl⟩,rfl,rfl⟩
 refine ZLF (by omega) fun b cap hv hc1 hc2=>?_
 subst hv
 (repeat' (first|((first|apply WL.opN|apply WD.opN);exact yF;dsimp only [ZA,z0,z1])|refine WL.nil ?_|refine ZC fun Kx hK=>?_|(refine hK _ _ ?_;clear hK)|refine WC.region ?_|((first|apply WL.opN|apply WD.opN);(focus ((first|exact ZBy|exact ZBq|fail);all_goals infer_instance));dsimp only [ZA,z0,z1])|(apply ZE;(exact oD);all_goals (intro h;try exact xD))|refine WC.skip ?_|refine WC.block ?_))
 simp only [maxLen] at hc2
 (refine WC.loopU (X:=Nat) (fun k=>[(5,dI (k:Int)),(4,dA),(6,dA),(7,dA),(12,dA),(13,dA),(14,dA),(15,dA),(16,dA),(17,dA),(18,dA),(19,dA),(20,dA),(21,dA),(22,dA),(23,dA),(24,dA),(25,dA),(26,dA),(27,dA),(28,dA),(29,dA),(30,dA),(31,dA),(32,dA),(33,dA),(34,dA),(35,dA),(36,dA),(37,dA),(38,dA),(39,dA),(40,dA),(41,dA),(42,dA),(43,dA),(44,dA),(45,dA),(46,dA),(47,dA),(48,dA),(49,dA),(50,dA),(51,dA),(52,dA),(53,dA),(54,dA),(55,dA),(56,dA),(57,dA),(58,dA),(59,dA),(60,dA),(61,dA),(62,dA),(63,dA),(64,dA)]) (fun k=>(hQ b xs.length cap 28 ZI xs::hp)) (fun k=>xs.length-k) (fun k=>1≤k/\k≤xs.length/\ZIr xs k (xs.take k)) 1 ?start ?frame0 ?objs0 ?round)
 case start=>exact ⟨Nat.le_refl _,by omega,ZKm (by omega)⟩
 case frame0=>((try dsimp only [Za,z0,z1]);repeat (first|exact LeF.nil|refine ZF (k:=?_)))
 case objs0=>rfl
 case round =>
  rintro k ⟨h1,h2,h3⟩
  dsimp only [Za,z0,z1]
  ((repeat' (first|((first|apply WL.opN|apply WD.opN);exact yF;dsimp only [ZA,z0,z1])|refine WL.nil ?_|refine WD.nil ?_|refine ZC fun Kx hK=>?_|(refine hK _ _ ?_;clear hK)|(refine Kont.skip ?_;clear hK)|refine WC.region ?_|(apply WC.draw;kernel_rfl;kernel_rfl)|((first|apply WL.opN|apply WD.opN);(focus ((first|(apply ZIx (k:=k) ZDz;exact OpD.t rfl;exact OpD.t rfl;rfl;omega)|(apply ZIx (k:=k-1) ZDz;exact OpD.t rfl;exact OpD.t rfl;omega;omega)|(apply ZFl (k:=k) ZG3;exact OpD.t rfl;exact .head _;omega;omega)|(apply ZFl (k:=k-1) ZG3;exact OpD.t rfl;exact .head _;omega;omega)|(apply ZBd (x:=((xs[k],xs[k-1]):List Vx × List Vx));(exact OpD.t rfl);(exact aD))|(apply SY.fromQ (l:=k) ZDz;exact OpD.t rfl;exact OpD.t rfl;rfl;omega;omega)|exact ZBy|exact ZCk|exact ZNF|exact ZBq|fail);all_goals infer_instance));dsimp only [ZA,z0,z1])|(apply ZE;(exact oD);all_goals (intro h;try exact xD))|refine WC.skip ?_|refine WC.ret ?_|refine WC.exit ?_|refine WC.block ?_|refine ThenD.n ?_));all_goals (first|refine WC.id ?_|((repeat clear hK);(repeat clear Kx))))
  ·have hk:k<xs.length:=by omega
   have hg:=ZHH h3 h1 hk h
   (refine WC.loopU (X:=Nat × Nat × Cx) (fun x=>[(5,dI (x.2.1:Int)),(7,dI (x.1:Int)),(32,dA),(33,dA),(34,dA),(35,dA),(36,dA),(37,dA),(38,dA),(39,dA),(40,dA),(41,dA),(42,dA),(43,dA),(44,dA),(45,dA),(46,dA),(47,dA),(48,dA),(49,dA),(50,dA),(51,dA),(52,dA),(53,dA),(54,dA),(55,dA),(56,dA),(57,dA),(58,dA)]) (fun x=>(hQ b xs.length cap 28 ZI x.2.2::hp)) (fun x=>xs.length-k-x.1) (fun x=>1≤x.1/\k+x.1≤xs.length/\x.2.1+1≤k+x.1/\x.2.2.length=xs.length/\ZIr xs (k+x.1) (x.2.2.take x.2.1)/\x.2.2.drop (k+x.1-1)=xs.drop (k+x.1-1)) (1,k,xs) ?start ?frame0 ?objs0 ?round)
   case start=>exact ⟨Nat.le_refl _,by omega,Nat.le_refl _,rfl,hg,rfl⟩
   case frame0=>((try dsimp only [Za,z0,z1]);repeat (first|exact LeF.nil|refine ZF (k:=?_)))
   case objs0=>rfl
   case round =>
    rintro ⟨m,i,ys⟩ ⟨q1,q2,q3,q4,q5,q6⟩
    dsimp only [Za,z0,z1]
    simp only at q1 q2 q3 q4 q5 q6
    have hget:∀ (j:Nat) (hj:k+m-1≤j) (hj':j<xs.length),ys[j]'(by omega)=xs[j]:=fun j hj hj'=>by
     have e1:=congrArg (fun l=>l[j-(k+m-1)]?) q6
     simp only [List.getElem?_drop] at e1
     rw [show k+m-1+(j-(k+m-1))=j by omega,List.getElem?_eq_getElem (by omega),List.getElem?_eq_getElem hj'] at e1
     exact Option.some.inj e1
    ((repeat' (first|((first|apply WL.opN|apply WD.opN);exact yF;dsimp only [ZA,z0,z1])|refine WL.nil ?_|refine WD.nil ?_|refine ZC fun Kx hK=>?_|(refine hK _ _ ?_;clear hK)|(refine Kont.skip ?_;clear hK)|refine WC.region ?_|(apply WC.draw;kernel_rfl;kernel_rfl) |  (apply ZNe (k:=i) ZG3;exact OpD.t rfl;exact OpD.t rfl;exact Zq;omega;omega;dsimp only [ZA,z0,z1]) |  (apply ZNU (k:=i) (n:=xs.length-i) (x0:=([]:List Vx)) Tryz.underlying22 Tryz.zeroValue28 rfl (fun _ _=>ZD8 (by decide));exact OpD.t rfl;omega;omega;omega;dsimp only [ZA,z0,z1]) |  (apply ZNf (l:=i) ZDz;exact OpD.t rfl;exact OpD.t rfl;rfl;omega;omega;omega;(simp;omega);dsimp only [ZA,z0,z1])|((first|apply WL.opN|apply WD.opN);(focus ((first|(apply ZIx (k:=m) ZDz;exact OpD.t rfl;exact OpD.t rfl;rfl;omega)|(apply ZIx (k:=m-1) ZDz;exact OpD.t rfl;exact OpD.t rfl;omega;omega)|(apply ZIx (k:=i) ZDz;exact OpD.t rfl;exact OpD.t rfl;rfl;omega)|(apply ZFl (k:=k+m) ZG3;exact OpD.t rfl;exact .head _;omega;omega)|(apply ZFl (k:=k+m-1) ZG3;exact OpD.t rfl;exact .head _;omega;omega)|(apply ZBd (x:=((ys[k+m],ys[k+m-1]):List Vx × List Vx));(exact OpD.t rfl);(exact aD))|(apply SY.fromQ (l:=i) ZDz;exact OpD.t rfl;exact OpD.t rfl;rfl;omega;omega)|exact ZBy|exact ZP5|exact ZCk|exact ZNF|exact ZBq|fail);all_goals infer_instance));dsimp only [ZA,z0,z1])|(apply ZE;(exact oD);all_goals (intro h;try exact xD))|(apply WC.condN;(exact oD);all_goals (intro h;try exact xD))|refine WC.skip ?_|refine WC.ret ?_|refine WC.exit ?_|refine WC.block ?_|refine ThenD.n ?_|refine ThenD.r ?_|refine InBlockD.r ?_));all_goals (first|((repeat clear hK);(repeat clear Kx))))
    ·have hkm:k+m<xs.length:=by omega
     have e1:ys[k+m]'(by omega)=xs[k+m]:=hget _ (by omega) hkm
     have e2:ys[k+m-1]'(by omega)=xs[k+m-1]:=hget _ (by omega) (by omega)
     rw [e1,e2] at h
     rw [e1]
     (refine ⟨(m+1,i+1,ys.set i xs[k+m]),?_,by first|omega|(simp only;omega),rfl,?_⟩;rotate_left;((try dsimp only [Za,z0,z1]);repeat (first|exact LeF.nil|refine ZF (k:=?_)));(try dsimp only))
     refine ⟨by omega,by omega,by omega,by simpa using q4,?_,?_⟩
     ·have:=ZHG hs q5 (by omega) hkm h
      rw [Nat.add_assoc] at this
      have e3:(ys.set i xs[k+m]).take (i+1)=ys.take i++[xs[k+m]]:=by
       rw [ZZ (by simp;omega),List.take_set_of_le (by omega)]
       simp
      rw [e3];exact this
     ·rw [show k+(m+1)-1=(k+m-1)+1 by omega]
      have e4:(ys.set i xs[k+m]).drop (k+m-1+1)=ys.drop (k+m-1+1):=by rw [List.drop_set_of_lt (by omega)]
      rw [e4]
      have:=congrArg (List.drop 1) q6
      simpa [List.drop_drop] using this
    ·have hkm:k+m<xs.length:=by omega
     have e1:ys[k+m]'(by omega)=xs[k+m]:=hget _ (by omega) hkm
     have e2:ys[k+m-1]'(by omega)=xs[k+m-1]:=hget _ (by omega) (by omega)
     rw [e1,e2] at h
     (refine ⟨(m+1,i,ys),?_,by first|omega|(simp only;omega),rfl,?_⟩;rotate_left;((try dsimp only [Za,z0,z1]);repeat (first|exact LeF.nil|refine ZF (k:=?_)));(try dsimp only))
     refine ⟨by omega,by omega,by omega,q4,?_,?_⟩
     ·have:=ZHH q5 (by omega) hkm h
      rw [Nat.add_assoc] at this
      exact this
     ·have:=congrArg (List.drop 1) q6
      rw [List.drop_drop,List.drop_drop] at this
      rw [show k+(m+1)-1=k+m-1+1 by omega]
      exact this
    ·have e1:(ys.take i++List.replicate (xs.length-i) ([]:List Vx)).take i=ys.take i:=by
      rw [List.take_left' (by simp;omega)]
     rw [e1]
     exact ⟨trivial,_,[_],rfl,rfl,_,_,ZJZ q5 (by omega),rfl,rfl⟩
  ·(refine ⟨k+1,?_,by first|omega|(simp only;omega),rfl,?_⟩;rotate_left;((try dsimp only [Za,z0,z1]);repeat (first|exact LeF.nil|refine ZF (k:=?_)));(try dsimp only))
   refine ⟨by omega,by omega,?_⟩
   rw [ZZ (by omega)]
   exact ZHG hs h3 h1 (by omega) h
  ·have e1:xs.take k=xs:=List.take_of_length_le (by omega)
   rw [e1] at h3
   exact ⟨trivial,_,[_],rfl,rfl,_,xs,ZJZ h3 (by omega),rfl,rfl⟩
end
end Go.Proofs.YtekiljakcngcoaaGreatDoor
