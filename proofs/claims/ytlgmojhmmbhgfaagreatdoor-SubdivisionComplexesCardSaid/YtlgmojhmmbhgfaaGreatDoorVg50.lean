/- Part 50: walks by contracts, and plain laws. -/
import Derived.Deep.SlicePairs
import Derived.Lib.SmallJoins
import Derived.Test.YtlgmojhmmbhgfaaGreatDoorRows
import Derived.Test.YtlgmojhmmbhgfaaGreatDoorVg49
set_option linter.unusedVariables false
set_option linter.unusedSimpArgs false
set_option linter.unusedSectionVars false
set_option maxRecDepth 100000
set_option maxHeartbeats 4000000
namespace Go.Proofs.YtlgmojhmmbhgfaaGreatDoor
section
open Go.RowKit

set_option maxHeartbeats 8000000 in
theorem complexes29_p (l:Cx) (k:Int):Fn Tryz.prog 3 [dS CpxL l,dI k] (dB true):=by
 have ca:=ZNC
 have c1:=ZOM l 4
 have c2:=ZTq l
 have c3:=ZOM l 1
 by_cases hb:decide ((l.length:Int)≤4) && decide (ZJ9 l≤2)
 ·have hl:l.length≤4:=by have:=of_decide_eq_true (Bool.and_eq_true_iff.1 hb).1;omega
  have hd:ZJ9 l≤2:=of_decide_eq_true (Bool.and_eq_true_iff.1 hb).2
  have h3:=ZKH hd
  have h5:∀ s∈l,s.length≤5:=fun s hs=>by have:=h3 s hs;omega
  have hf:ZD3 l=true:=by
   unfold ZD3
   rw [decide_eq_true (by omega),Bool.true_and]
   exact List.all_eq_true.2 fun s hs=>decide_eq_true (by have:=h3 s hs;omega)
  rw [hb] at c1
  rw [hf] at c2
  by_cases hk:2<k/\k≤6
  ·obtain ⟨k1,k2⟩:=hk
   (refine ZG Tryz.func3 rfl rfl ?_;simp only [Tryz.ntmps3,List.length_cons,List.length_nil,Nat.reduceAdd,Nat.reduceSub,List.replicate_succ,List.replicate_zero,List.cons_append,List.nil_append])
   ((repeat' (first|(apply WL.opN;exact yF;dsimp only [ZB,z0,z1])|refine WL.nil ?_|refine ZA fun Kx hK=>?_|(refine hK _ _ ?_;clear hK)|refine WC.region ?_ |  (apply ZJ;(focus (apply ZIX;exact ZE9 rfl rfl rfl));dsimp only [ZB,z0,z1])|(apply ZJ;(focus (first|exact wN|(apply ZF;(exact wY);((first|(exact SY.box (OpD.t rfl) (fun I w v h=>Zt I w v (ZAp I w v h)))|(apply SY.load;exact tyC;exact OpD.t rfl)|(apply SY.call c1 Tryz.call4;exact ArgsD.cons (OpD.tle rfl ZAp) (ArgsD.cons OpD.i ArgsD.nil))|(apply SY.call c2 Tryz.call5;exact ArgsD.cons (OpD.tle rfl ZAp) ArgsD.nil)|(apply SY.call (ca) Tryz.call6;(exact aD))|((first|apply SY.move|apply SY.assign|apply SY.leq|apply SY.gtr|apply SY.eql|apply SY.neq|apply SY.not) <;> (exact oD))|(apply Z6;(exact oD);(with_reducible rfl);(exact oD))|(apply ZAS;(exact oD);(with_reducible rfl);(exact oD))|fail);all_goals infer_instance))));dsimp only [ZB,z0,z1])|((first|refine Za rfl rfl rfl (fun h=>?_) (fun h=>?_)|refine ZZ rfl rfl rfl (fun h=>?_) (fun h=>?_)|refine ZT rfl rfl rfl (fun h=>?_) (fun h=>?_)) <;> (first|(exfalso;first|omega|contradiction)|(dsimp only [z0,z1])))|(apply ZAs;(exact oD);(with_reducible rfl))|refine WC.ret ?_|refine ThenD.r ?_));all_goals (first|((repeat clear hK);(repeat clear Kx))))
   all_goals first|(refine ⟨trivial,_,rfl,?_⟩;exact fD)|(exfalso;first|contradiction|omega)
  ·by_cases h2:k=2->l.length≤1
   ·obtain ⟨r,i1,i2,_⟩:=ZOG l k hl h3 hk h2
    have d1:=ZIr l
    have d2:=ZIs l
    have d3:=ZGi l hl h5
    have d4:=ZGj l hl h5
    have s1:=ZIC (ZJl l).1.1 (ZJl l).1.2.1 (ZJl l).1.2.2
    have s2:=ZIC (ZL8 l).1.1 (ZL8 l).1.2.1 (ZL8 l).1.2.2
    have s3:=ZIC r.1.1 r.1.2.1 r.1.2.2
    have c4:k=2->Fn Tryz.prog 4 [dS Cpx l,dI 1] (dB true):=fun q=>by
     have:=h2 q
     rw [decide_eq_true (by omega),decide_eq_true hd] at c3
     exact c3
    generalize hA:ZJl l=A at *
    generalize hB:ZL8 l=B at *
    obtain ⟨⟨A1,A2,A3⟩,A4⟩:=A
    obtain ⟨⟨B1,B2,B3⟩,B4⟩:=B
    obtain ⟨⟨C1,C2,C3⟩,C4⟩:=r
    simp only at *
    by_cases hk2:k=2
    ·have c5:=c4 hk2
     subst hk2
     (refine ZG Tryz.func3 rfl rfl ?_;simp only [Tryz.ntmps3,List.length_cons,List.length_nil,Nat.reduceAdd,Nat.reduceSub,List.replicate_succ,List.replicate_zero,List.cons_append,List.nil_append])
     ((repeat' (first|(apply WL.opN;exact yF;dsimp only [ZB,z0,z1])|refine WL.nil ?_|refine ZA fun Kx hK=>?_|(refine hK _ _ ?_;clear hK)|refine WC.region ?_ |  (refine WL.alloc (dst:=some 5) ZCH (Zj rfl rfl rfl) fun b5=>?_;dsimp only [ZB,z0,z1]) |  (refine WL.alloc (dst:=some 7) ZCH (Zj rfl rfl rfl) fun b7=>?_;dsimp only [ZB,z0,z1]) |  (refine Zw ZAd (OpD.t rfl) (OpD.t rfl) Zn ?_;dsimp only [ZB,z0,z1]) |  (refine WL.perm (List.Perm.swap _ _ _) (Zw ZAd (OpD.t rfl) (OpD.t rfl) Zn (WL.perm (List.Perm.swap _ _ _) ?_));dsimp only [ZB,z0,z1])|(apply ZJ;(focus (first|exact wN|(apply ZF;(exact wY);((first|(exact SY.box (OpD.t rfl) (fun I w v h=>Zt I w v (ZAp I w v h)))|(apply SY.load;exact tyC;exact OpD.t rfl)|(apply SY.call c1 Tryz.call4;exact ArgsD.cons (OpD.tle rfl ZAp) (ArgsD.cons OpD.i ArgsD.nil))|(apply SY.call c5 Tryz.call4;exact ArgsD.cons (OpD.tle rfl ZAp) (ArgsD.cons OpD.i ArgsD.nil))|(apply SY.call c2 Tryz.call5;exact ArgsD.cons (OpD.tle rfl ZAp) ArgsD.nil)|(apply SY.call (d1) Tryz.call7;(exact aD))|(apply SY.call d2 Tryz.call8;exact ArgsD.cons (OpD.tle rfl ZAp) ArgsD.nil)|(apply SY.call (d3) Tryz.call10;(exact aD))|(apply SY.call d4 Tryz.call11;exact ArgsD.cons (OpD.tle rfl ZAp) ArgsD.nil)|(apply SY.call (i1) Tryz.call12;(exact aD))|(apply SY.call i2 Tryz.call13;exact ArgsD.cons (OpD.tle rfl ZAp) (ArgsD.cons (OpD.t rfl) ArgsD.nil))|(apply SY.call (s1) Tryz.call9;exact ArgsD.cons (OpD.t rfl) (ArgsD.cons (OpD.t rfl) (ArgsD.nil)))|(apply SY.call (s2) Tryz.call9;exact ArgsD.cons (OpD.t rfl) (ArgsD.cons (OpD.t rfl) (ArgsD.nil)))|(apply SY.call (s3) Tryz.call9;exact ArgsD.cons (OpD.t rfl) (ArgsD.cons (OpD.t rfl) (ArgsD.nil)))|(apply ZAN ZAd;exact OpD.t rfl;(first|exact .head _|exact .tail _ (.head _)))|(apply SY.call (ca) Tryz.call6;(exact aD))|((first|apply SY.move|apply SY.assign|apply SY.leq|apply SY.gtr|apply SY.eql|apply SY.neq|apply SY.not) <;> (exact oD))|(apply Z6;(exact oD);(with_reducible rfl);(exact oD))|(apply ZAS;(exact oD);(with_reducible rfl);(exact oD))|(apply SY.extract;(exact oD);rfl)|fail);all_goals infer_instance))));dsimp only [ZB,z0,z1])|((first|refine Za rfl rfl rfl (fun h=>?_) (fun h=>?_)|refine ZZ rfl rfl rfl (fun h=>?_) (fun h=>?_)|refine ZT rfl rfl rfl (fun h=>?_) (fun h=>?_)) <;> (first|(exfalso;first|omega|contradiction)|(dsimp only [z0,z1])))|(apply ZL;(exact oD);all_goals (intro h;try exact xD))|(apply Z7;(exact oD);all_goals (intro h;try exact xD))|refine WC.skip ?_|refine WC.ret ?_));all_goals (first|((repeat clear hK);(repeat clear Kx))))
     all_goals first|(refine ⟨trivial,_,rfl,?_⟩;exact fD)|(exfalso;first|contradiction|omega)
    ·(refine ZG Tryz.func3 rfl rfl ?_;simp only [Tryz.ntmps3,List.length_cons,List.length_nil,Nat.reduceAdd,Nat.reduceSub,List.replicate_succ,List.replicate_zero,List.cons_append,List.nil_append])
     ((repeat' (first|(apply WL.opN;exact yF;dsimp only [ZB,z0,z1])|refine WL.nil ?_|refine ZA fun Kx hK=>?_|(refine hK _ _ ?_;clear hK)|refine WC.region ?_ |  (refine WL.alloc (dst:=some 5) ZCH (Zj rfl rfl rfl) fun b5=>?_;dsimp only [ZB,z0,z1]) |  (refine WL.alloc (dst:=some 7) ZCH (Zj rfl rfl rfl) fun b7=>?_;dsimp only [ZB,z0,z1]) |  (refine Zw ZAd (OpD.t rfl) (OpD.t rfl) Zn ?_;dsimp only [ZB,z0,z1]) |  (refine WL.perm (List.Perm.swap _ _ _) (Zw ZAd (OpD.t rfl) (OpD.t rfl) Zn (WL.perm (List.Perm.swap _ _ _) ?_));dsimp only [ZB,z0,z1])|(apply ZJ;(focus (first|exact wN|(apply ZF;(exact wY);((first|(exact SY.box (OpD.t rfl) (fun I w v h=>Zt I w v (ZAp I w v h)))|(apply SY.load;exact tyC;exact OpD.t rfl)|(apply SY.call c1 Tryz.call4;exact ArgsD.cons (OpD.tle rfl ZAp) (ArgsD.cons OpD.i ArgsD.nil))|(apply SY.call c2 Tryz.call5;exact ArgsD.cons (OpD.tle rfl ZAp) ArgsD.nil)|(apply SY.call (d1) Tryz.call7;(exact aD))|(apply SY.call d2 Tryz.call8;exact ArgsD.cons (OpD.tle rfl ZAp) ArgsD.nil)|(apply SY.call (d3) Tryz.call10;(exact aD))|(apply SY.call d4 Tryz.call11;exact ArgsD.cons (OpD.tle rfl ZAp) ArgsD.nil)|(apply SY.call (i1) Tryz.call12;(exact aD))|(apply SY.call i2 Tryz.call13;exact ArgsD.cons (OpD.tle rfl ZAp) (ArgsD.cons (OpD.t rfl) ArgsD.nil))|(apply SY.call (s1) Tryz.call9;exact ArgsD.cons (OpD.t rfl) (ArgsD.cons (OpD.t rfl) (ArgsD.nil)))|(apply SY.call (s2) Tryz.call9;exact ArgsD.cons (OpD.t rfl) (ArgsD.cons (OpD.t rfl) (ArgsD.nil)))|(apply SY.call (s3) Tryz.call9;exact ArgsD.cons (OpD.t rfl) (ArgsD.cons (OpD.t rfl) (ArgsD.nil)))|(apply ZAN ZAd;exact OpD.t rfl;(first|exact .head _|exact .tail _ (.head _)))|(apply SY.call (ca) Tryz.call6;(exact aD))|((first|apply SY.move|apply SY.assign|apply SY.leq|apply SY.gtr|apply SY.eql|apply SY.neq|apply SY.not) <;> (exact oD))|(apply Z6;(exact oD);(with_reducible rfl);(exact oD))|(apply ZAS;(exact oD);(with_reducible rfl);(exact oD))|(apply SY.extract;(exact oD);rfl)|fail);all_goals infer_instance))));dsimp only [ZB,z0,z1])|((first|refine Za rfl rfl rfl (fun h=>?_) (fun h=>?_)|refine ZZ rfl rfl rfl (fun h=>?_) (fun h=>?_)|refine ZT rfl rfl rfl (fun h=>?_) (fun h=>?_)) <;> (first|(exfalso;first|omega|contradiction)|(dsimp only [z0,z1])))|(apply Zi;(exact oD);(with_reducible rfl))|(apply ZL;(exact oD);all_goals (intro h;try exact xD))|refine WC.skip ?_|refine WC.ret ?_));all_goals (first|((repeat clear hK);(repeat clear Kx))))
     all_goals first|(refine ⟨trivial,_,rfl,?_⟩;exact fD)|(exfalso;first|contradiction|omega)
   ·have hk2:k=2:=Classical.byContradiction fun q=>h2 fun e=>absurd e q
    have hl1:¬ l.length≤1:=fun q=>h2 fun _=>q
    subst hk2
    rw [decide_eq_false (show ¬ (l.length:Int)≤1 by omega),Bool.false_and] at c3
    (refine ZG Tryz.func3 rfl rfl ?_;simp only [Tryz.ntmps3,List.length_cons,List.length_nil,Nat.reduceAdd,Nat.reduceSub,List.replicate_succ,List.replicate_zero,List.cons_append,List.nil_append])
    ((repeat' (first|(apply WL.opN;exact yF;dsimp only [ZB,z0,z1])|refine WL.nil ?_|refine ZA fun Kx hK=>?_|(refine hK _ _ ?_;clear hK)|refine WC.region ?_|(apply ZJ;(focus (first|exact wN|(apply ZF;(exact wY);((first|(exact SY.box (OpD.t rfl) (fun I w v h=>Zt I w v (ZAp I w v h)))|(apply SY.load;exact tyC;exact OpD.t rfl)|(apply SY.call c1 Tryz.call4;exact ArgsD.cons (OpD.tle rfl ZAp) (ArgsD.cons OpD.i ArgsD.nil))|(apply SY.call c3 Tryz.call4;exact ArgsD.cons (OpD.tle rfl ZAp) (ArgsD.cons OpD.i ArgsD.nil))|(apply SY.call c2 Tryz.call5;exact ArgsD.cons (OpD.tle rfl ZAp) ArgsD.nil)|(apply SY.call (ca) Tryz.call6;(exact aD))|((first|apply SY.move|apply SY.assign|apply SY.leq|apply SY.gtr|apply SY.eql|apply SY.neq|apply SY.not) <;> (exact oD))|(apply Z6;(exact oD);(with_reducible rfl);(exact oD))|(apply ZAS;(exact oD);(with_reducible rfl);(exact oD))|fail);all_goals infer_instance))));dsimp only [ZB,z0,z1])|((first|refine Za rfl rfl rfl (fun h=>?_) (fun h=>?_)|refine ZZ rfl rfl rfl (fun h=>?_) (fun h=>?_)|refine ZT rfl rfl rfl (fun h=>?_) (fun h=>?_)) <;> (first|(exfalso;first|omega|contradiction)|(dsimp only [z0,z1])))|(apply Z7;(exact oD);all_goals (intro h;try exact xD))|refine WC.ret ?_|refine ThenD.r ?_));all_goals (first|((repeat clear hK);(repeat clear Kx))))
    all_goals first|(refine ⟨trivial,_,rfl,?_⟩;exact fD)|(exfalso;first|contradiction|omega)
 ·rw [Bool.eq_false_iff.2 hb] at c1
  (refine ZG Tryz.func3 rfl rfl ?_;simp only [Tryz.ntmps3,List.length_cons,List.length_nil,Nat.reduceAdd,Nat.reduceSub,List.replicate_succ,List.replicate_zero,List.cons_append,List.nil_append])
  ((repeat' (first|(apply WL.opN;exact yF;dsimp only [ZB,z0,z1])|refine WL.nil ?_|refine ZA fun Kx hK=>?_|(refine hK _ _ ?_;clear hK)|refine WC.region ?_ |  (apply ZJ;(focus (apply ZIX;exact ZE9 rfl rfl rfl));dsimp only [ZB,z0,z1])|(apply ZJ;(focus (first|exact wN|(apply ZF;(exact wY);((first|(exact SY.box (OpD.t rfl) (fun I w v h=>Zt I w v (ZAp I w v h)))|(apply SY.call c1 Tryz.call4;exact ArgsD.cons (OpD.tle rfl ZAp) (ArgsD.cons OpD.i ArgsD.nil))|(apply SY.call (ca) Tryz.call6;(exact aD))|((first|apply SY.move|apply SY.assign|apply SY.leq|apply SY.gtr|apply SY.eql|apply SY.neq|apply SY.not) <;> (exact oD))|(apply Z6;(exact oD);(with_reducible rfl);(exact oD))|fail);all_goals infer_instance))));dsimp only [ZB,z0,z1])|((first|refine Za rfl rfl rfl (fun h=>?_) (fun h=>?_)|refine ZZ rfl rfl rfl (fun h=>?_) (fun h=>?_)|refine ZT rfl rfl rfl (fun h=>?_) (fun h=>?_)) <;> (first|(exfalso;first|omega|contradiction)|(dsimp only [z0,z1])))|(apply ZAs;(exact oD);(with_reducible rfl))|refine WC.ret ?_|refine ThenD.r ?_));all_goals (first|((repeat clear hK);(repeat clear Kx))))
  all_goals first|(refine ⟨trivial,_,rfl,?_⟩;exact fD)|(exfalso;first|contradiction|omega)
end
section
open Go.ChangeShapes Go.WideShapes Go.ChangeAt Go.RowKit

theorem own:ownKnob Tryz.prog.godebug=none:=by kernel_rfl
theorem ZSm:laidOutB Tryz.prog=true:=by kernel_rfl
theorem ZTX:Tryz.prog.cellsOf 43=2:=by kernel_rfl
theorem ZTW:Tryz.prog.cellsOf 28=1:=by kernel_rfl
theorem ZRd:Tryz.prog.cellsOf 3=1:=by kernel_rfl

section
variable {H:Type} {enc:TypeId × Value->H}
theorem ZUB {w:World} {fuel:Nat} {v:Value} {x:DataW H × List MemPlace} (h:DataW.trod enc Tryz.prog w 0 (fun _=>true) true fuel 28 [v]=some x) :
  ∃ xs,ZE anyB w v xs:=by
 rcases Deep.open_slice_pairs Tryz.underlying28 Tryz.underlying43 ZTX rfl rfl ZRd ZRd h with ⟨hc,_⟩|⟨a,len,cap,m,n,V0,V1,D0,D1,P0,P1,hc,_,hl,hm,hmm,_,hx⟩
 ·obtain rfl:v = .slice none 0 0:=by simpa using hc
  exact ⟨[],ZEE (by decide)⟩
 ·obtain rfl:v = .slice (some a) len cap:=by simpa using hc
  simp only [if_true] at hmm
  subst hmm
  have hz:∀ i,∃ p:Int × Int,i<m->V0 i = .int .i64 p.1/\V1 i = .int .i64 p.2:=fun i=>by
   by_cases hi:i<m
   ·obtain ⟨_,_,h2,h3⟩:=hx i hi
    obtain ⟨p,hp,_⟩:=DataW.trod_int Tryz.underlying3 h2
    obtain ⟨q,hq,_⟩:=DataW.trod_int Tryz.underlying3 h3
    exact ⟨(p,q),fun _=>⟨by simpa using hp,by simpa using hq⟩⟩
   ·exact ⟨(0,0),fun h=>absurd h hi⟩
  obtain ⟨z,hz⟩:=Classical.axiomOfChoice hz
  have hlen:((List.range len).map z).length=len:=by simp
  refine ⟨(List.range len).map z,some a,m,by rw [hlen],by rw [hlen];exact hl,hm,by decide,fun k hk=>?_⟩
  rw [hlen] at hk
  obtain ⟨h0,h1,_⟩:=hx k (by omega)
  have hs:=World.cell?_spot (hx 0 (by omega)).1
  obtain ⟨b,off,sp⟩:=a
  obtain rfl:sp=none:=by simpa [Addr.add] using hs
  obtain ⟨e0,e1⟩:=hz k (by omega)
  refine ⟨[.int .i64 (z k).1,.int .i64 (z k).2],b,off,by simp [RV],rfl,by simp [Value.oneCell'],rfl,trivial,fun j c hc=>?_⟩
  rw [Addr.add_lit] at h0 h1
  match j,hc with
  | 0,hc=>cases hc;rw [Nat.add_zero,<- e0];exact h0
  | 1,hc=>cases hc;rw [<- e1,Nat.add_assoc];exact h1
theorem ZUA {w:World} {fuel:Nat} {v:Value} {x:DataW H × List MemPlace} (h:DataW.trod enc Tryz.prog w 0 (fun _=>true) true fuel 22 [v]=some x) :
  ∃ xs,Zc anyB w v xs:=by
 rcases Deep.open_slice1 Tryz.underlying22 ZTW h with ⟨hc,_⟩|⟨a,len,cap,m,n,V,D,Pl,hc,_,hl,hm,hmm,_,hx⟩
 ·obtain rfl:v = .slice none 0 0:=by simpa using hc
  exact ⟨[],ZCo⟩
 ·obtain rfl:v = .slice (some a) len cap:=by simpa using hc
  simp only [if_true] at hmm
  subst hmm
  have hz:∀ i,∃ xs:List (Int × Int),i<m->ZE anyB w (V i) xs:=fun i=>by
   by_cases hi:i<m
   ·obtain ⟨xs,h1⟩:=ZUB (hx i hi).2
    exact ⟨xs,fun _=>h1⟩
   ·exact ⟨[],fun h=>absurd h hi⟩
  obtain ⟨z,hz⟩:=Classical.axiomOfChoice hz
  have hlen:((List.range len).map z).length=len:=by simp
  refine ⟨(List.range len).map z,some a,m,by rw [hlen],by rw [hlen];exact hl,hm,fun k hk=>?_⟩
  rw [hlen] at hk
  obtain ⟨h0,_⟩:=hx k (by omega)
  have hs:=World.cell?_spot (hx 0 (by omega)).1
  obtain ⟨b,off,sp⟩:=a
  obtain rfl:sp=none:=by simpa [Addr.add] using hs
  have hv:=hz k (by omega)
  refine ⟨V k,b,off,by simpa using hv,?_,rfl,trivial,by rw [Addr.add_lit] at h0;exact h0⟩
  obtain ⟨a',c',hv',_⟩:=hv
  rw [hv'];rfl
theorem open_N' {w:World} {r:Reach} {b0:Nat} {v:Value} {d:DataW H} {ps:List MemPlace} (hv:Value.okWide Tryz.prog w r b0 3 v) (h:DataW.Trod enc Tryz.prog w 0 (fun _=>true) true 3 v d ps):∃ n:Int,(dI n).rd anyB w v /\ -9223372036854775808≤n/\n≤9223372036854775807:=by
 obtain ⟨n,rfl,_,_,hw⟩:=open_int Tryz.underlying3 hv h
 exact ⟨n,rfl,by simpa [Lit.wf,IntKind.min,IntKind.max,IntKind.signed,IntKind.bits] using hw⟩
end

section
variable {H:Type} {enc:TypeId × Value->H}

theorem ZIg {W W':World} (hE:Ext W W'):∀ {ts:List TypeId} {vs:List Value} {ds:List (DataW H)} {ps:List MemPlace},(∀ t∈ts,Tryz.prog.readableRec t=true/\t<Tryz.prog.types.size)->(∀ p∈ps,p.block<W.heap.size) ->
  DataW.TrodAll enc Tryz.prog W 0 (fun _=>true) true ts vs ds ps->DataW.TrodAll enc Tryz.prog W' 0 (fun b=>decide (b<W.heap.size)) true ts vs ds ps
 | [],_,_,_,_,_,h=>by
  obtain ⟨rfl,rfl,rfl⟩:=trodAll_nil h
  exact trodAll_mk0
 | t::ts,_,_,_,ht,hlt,h=>by
  obtain ⟨v,vs1,d,ds1,a,b,rfl,rfl,rfl,h1,h2⟩:=trodAll_cons h
  exact trodAll_cons_mk (Below.trod ZSm (ht t (by simp)).1 (ht t (by simp)).2 h1 hE (fun x hx=>hlt x (by simp [hx]))) (ZIg hE (fun t' h'=>ht t' (by simp [h'])) (fun p hp=>hlt p (by simp [hp])) h2)

theorem post_law {f:Func} {s:ChangeSpec} {W W':World} {args:Array Value} {ds gs:List (DataW H)} {before:List MemPlace} (hW:DataW.Whole enc Tryz.prog f.params.toList s.vars false W args.toList ds gs before) (hvars:s.vars=[])
  (hr:f.resultTypes=#[4]) (hs:s.fn H ds={ results:=[.lit (.bool true)],args:=ds }) (ht:∀ t∈f.params.toList,Tryz.prog.readableRec t=true/\t<Tryz.prog.types.size) (hE:Ext W W') :
  s.post enc Tryz.prog f false true false false W args (.bool true) W':=by
 have hlt:=hW.lt
 have hW':=hW
 obtain ⟨p,q,hA,hV,rfl,hfz,hnd⟩:=hW
 rw [hvars] at hV
 obtain ⟨rfl,rfl⟩:=trodVars_none hV
 refine ⟨ds,[],p++[],[],p,[],hW',?_,?_,?_,hE.frame _,fun h=>by cases h⟩
 ·rw [hr,List.append_nil,hs]
  exact trodAll_mk1 (shut_bool Tryz.underlying4 true)
 ·rw [List.append_nil,hs]
  exact ZIg hE ht (fun x hx=>hlt x (by simp [hx])) hA
 ·rw [hvars,List.append_nil,hs]
  rfl
theorem fn_law {f:FuncId} {ds:List Dat} (hF:Fn Tryz.prog f ds (dB true)) {W:World} {vs:List Value} (hl:vs.length=ds.length) (h:∀ (i:Nat) (d:Dat),ds[i]?=some d->d.rd anyB W (vs.getD i undef)) :
  Calls Tryz.prog f vs.toArray W fun e W'=>e = .returned (.bool true)/\Ext W W' :=
 (hF.out anyB W vs hl h).mono fun _ _ ⟨_,h1,h2,h3⟩=>by cases (h3:_=_);exact ⟨h1,h2⟩
end
end
section
open Go.ChangeShapes Go.WideShapes Go.ChangeAt Go.RowKit
section
variable {H:Type} {enc:TypeId × Value->H}
theorem ZTV:Tryz.prog.cellsOf 24=1:=by kernel_rfl
theorem ZSN:Tryz.prog.cellsOf 22=1:=by kernel_rfl
theorem open_C' {w:World} {r:Reach} {b0:Nat} {v:Value} {d:DataW H} {ps:List MemPlace} (hv:Value.okWide Tryz.prog w r b0 24 v) (h:DataW.Trod enc Tryz.prog w 0 (fun _=>true) true 24 v d ps):∃ xs,(dS Cpx xs).rd anyB w v:=by
 obtain ⟨fuel,h⟩:=h
 obtain ⟨cs,rfl,hcs⟩:=okWide_struct Tryz.underlying24 hv
 rw [ZTV] at hcs
 obtain ⟨u,rfl⟩:=Array.size_eq_one_iff.1 hcs
 obtain ⟨y0,n,hy,hl,h0⟩:=trod_struct1 Tryz.underlying24 h
 have h0':DataW.trod enc Tryz.prog w 0 (fun _=>true) true n 22 [u]=some y0:=by
  have e:Tryz.prog.cellsOf 22=1:=ZSN
  simpa [Value.cells,e] using h0
 obtain ⟨xs,hx⟩:=ZUA h0'
 refine ⟨xs,u,rfl,?_,hx⟩
 obtain ⟨a,c,hu,_⟩:=hx
 rw [hu];rfl
end
end
end Go.Proofs.YtlgmojhmmbhgfaaGreatDoor
