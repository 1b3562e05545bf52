/- Part 45: walks by contracts, and plain laws. -/
import Derived.Deep.SlicePairs
import Derived.Lib.SmallJoins
import Derived.Test.YtokmalofdapffaaGreatRows
import Derived.Test.YtokmalofdapffaaGreatV44
set_option linter.unusedVariables false
set_option linter.unusedSimpArgs false
set_option linter.unusedSectionVars false
set_option maxRecDepth 100000
set_option maxHeartbeats 4000000
namespace Go.Proofs.YtokmalofdapffaaGreat
section
open Go.RowKit
abbrev ZFB:Cx:=[[(0,0),(1,0)],[(0,0),(2,0)],[(1,0),(2,0)]]
theorem ZKY:ZA8 ZFB=0:=by decide
theorem ZNN:ZLf ZFB=([],0):=by decide
theorem ZPl:L05.nulI L05.incF (Zs ZFB 1) (Zs ZFB 2)=2:=by decide +kernel
theorem ZFC:(Zs ZFB 1).length=3/\(Zs ZFB 2).length=3/\Zs ZFB 3=[]:=by decide +kernel
theorem ZPm:rkC ZFB 1=2:=by
 have h:=L05.rk_nul L05.incF (Zs ZFB 1) (Zs ZFB 2)
 rw [ZPl,ZFC.1] at h
 have e:rkC ZFB 1=L05.rkG L05.incF (Zs ZFB 1) (Zs ZFB 2):=rfl
 rw [e]
 exact L05.mul_inj (N:=2) (k:=3) h rfl
theorem ZPn:rkC ZFB 2=0:=by
 have e:rkC ZFB 2=L05.rkG L05.incF (Zs ZFB 2) (Zs ZFB 3):=rfl
 rw [e,ZFC.2.2]
 exact ZJw _
theorem ZPk:ZF7 ZFB=[1,1]:=by
 have e:ZF7 ZFB=[ZF6 ZFB 0,ZF6 ZFB 1]:=rfl
 rw [e]
 unfold ZF6
 rw [ZQV,ZPm,ZPn,ZFC.1,ZFC.2.1]
 rfl
theorem ZPj:∀ k,(Zs ZFB k).length≤4096:=ZE7 (Zr.1 ZKY) (by decide +kernel)
theorem ZG6 {l:Cx} (h:ZA8 l=0):(ZF7 l).length≤1000:=by
 have:=ZNH h
 unfold ZF7
 rw [List.length_map,List.length_range]
 omega

set_option maxHeartbeats 8000000 in
theorem ZIS:Fn Tryz.prog 4 [] (dB true):=by
 have c1:=ZE8 ZFB ZKY ZPj
 rw [ZPk] at c1
 have c2:=ZKf ZFB
 rw [ZNN] at c2
 have c3:=ZIf [1,1] [1,1]
 rw [decide_eq_true rfl] at c3
 have h2:(2:Nat)≤[((0:Int),(0:Int)),(1,0),(2,0)].length:=by decide
 have h1:(1:Nat)≤[((0:Int),(0:Int)),(1,0),(2,0)].length:=by decide
 have h3:0<[((0:Int),(0:Int)),(1,0),(2,0)].length:=by decide
 have h4:2<[((0:Int),(0:Int)),(1,0),(2,0)].length:=by decide
 (refine ZG Tryz.func4 rfl rfl ?_;simp only [Tryz.ntmps4,List.length_cons,List.length_nil,Nat.reduceAdd,Nat.reduceSub,List.replicate_succ,List.replicate_zero,List.cons_append,List.nil_append])
 (repeat' (first |  (refine WC.drawW (β:=Nat) 13 (fun b=>[ZO b 24 1 true (dX (.agg #[.slice none 0 0]))]) (fun b=>dX (.pointer (some ⟨b,0,none⟩))) _ rfl (by kernel_rfl) (by kernel_rfl) ?_;simp only [List.take_succ_cons,List.take_zero,List.drop_succ_cons,List.drop_zero])|((first|apply WL.opN|apply WD.opN);exact yF;dsimp only [ZB,z0,z1])|refine WL.nil ?_|refine ZA fun Kx hK=>?_|(refine hK _ _ ?_;clear hK)|refine WC.region ?_|((first|apply ZF|apply WD.op);(focus (first|exact wN|(apply SYG.yes;(exact wY);((first|(first|(apply ZBB vxT <;> (exact oD))|(apply SY.mkV1 vxT <;> (exact oD))|(apply SY.mkV vxT <;> (exact oD))|(apply ZCz vxT <;> (exact oD)))|(apply SY.buildE;(exact eD);((try simp only [List.map_cons,List.map_nil]);(repeat (first|exact Zu|(apply Zt;(first|exact OpD.t rfl|exact OpD.i|exact OpD.b|exact OpD.tle rfl (by first|exact ZE|exact ZC (by decide))|exact ⟨ZE⟩|exact ⟨ZC (by decide)⟩)))));rfl;rfl;decide;(intro _;exact ZB9);(exact (by simp)))|fail);all_goals infer_instance))));dsimp only [ZB,z0,z1])))
 (repeat' (first|refine WDs.nil ?_|(apply WDs.op;(focus (intro c;apply SYG.yes;(exact ZP rfl);((first|(refine ZGw elV (R:=RV) (_gR:=inferInstance) (xs:=[(0,0),(1,0),(2,0)]) (OpD.t rfl) OpD.i 2 rfl h2)|(refine ZGu elV (R:=RV) (_gR:=inferInstance) (xs:=[(0,0),(1,0),(2,0)]) (OpD.t rfl) OpD.i 1 rfl h1)|(exact ZE4 (R:=RV) (_gR:=inferInstance) (xs:=[(0,0),(1,0),(2,0)]) (k:=0) (v:=(0,0)) elV h3 rfl (OpD.t rfl) OpD.i)|(exact ZE4 (R:=RV) (_gR:=inferInstance) (xs:=[(0,0),(1,0),(2,0)]) (k:=2) (v:=(2,0)) elV h4 rfl (OpD.t rfl) OpD.i)|(apply SY.load;exact tyV;exact OpD.t rfl)|((first|apply SY.move|apply SY.assign|apply SY.eql) <;> (exact oD))|(apply ZCV ZA9;exact OpD.t rfl)|(apply SY.buildE;(exact eD);((try simp only [List.map_cons,List.map_nil]);(repeat (first|exact Zu|(apply Zt;(first|exact OpD.t rfl|exact OpD.i|exact OpD.b|exact OpD.tle rfl (by first|exact ZE|exact ZC (by decide))|exact ⟨ZE⟩|exact ⟨ZC (by decide)⟩)))));rfl;rfl;decide;(intro _;exact ZB9);(exact (by simp)))|(apply SY.build1';(exact eD);((try simp only [List.map_cons,List.map_nil]);(repeat (first|exact Zu|(apply Zt;(first|exact OpD.t rfl|exact OpD.i|exact OpD.b|exact OpD.tle rfl (by first|exact ZE|exact ZC (by decide))|exact ⟨ZE⟩|exact ⟨ZC (by decide)⟩)))));rfl;rfl;(intro _;first|exact ZAU|exact ZAc|exact ZAh|exact shape_B);(exact (by simp)))|fail);all_goals infer_instance)));dsimp only [ZB,z0,z1])))
 refine ⟨SW.alloc tzC (Ze rfl),fun b2=>?_⟩
 dsimp only [ZB,z0,z1]
 ((repeat' (first|((first|apply WL.opN|apply WD.opN);exact yF;dsimp only [ZB,z0,z1])|refine WL.nil ?_|refine ZA fun Kx hK=>?_|(refine hK _ _ ?_;clear hK)|refine WC.region ?_ |  (refine ZI tyC rfl (OpD.t rfl) ZAT ?_;dsimp only [ZB,z0,z1])|((first|apply ZF|apply WD.op);(focus (first|exact wN|(apply SYG.yes;(exact wY);((first|(apply SY.call (c1) Tryz.call6;(exact aD))|(apply SY.call (c2) Tryz.call9;(exact aD))|(apply SY.call (c3) Tryz.call10;(exact aD))|((first|apply SY.move|apply SY.assign|apply SY.eql) <;> (exact oD))|(apply SY.len;(exact oD);(exact nD);(exact uD))|(apply SY.build1';(exact eD);((try simp only [List.map_cons,List.map_nil]);(repeat (first|exact Zu|(apply Zt;(first|exact OpD.t rfl|exact OpD.i|exact OpD.b|exact OpD.tle rfl (by first|exact ZE|exact ZC (by decide))|exact ⟨ZE⟩|exact ⟨ZC (by decide)⟩)))));rfl;rfl;(intro _;first|exact ZAU|exact ZAc|exact ZAh|exact shape_B);(exact (by simp)))|(apply Zn;(exact oD);(with_reducible rfl);(exact oD))|(apply SY.extract;(exact oD);rfl)|fail);all_goals infer_instance))));dsimp only [ZB,z0,z1])|((first|refine ZM rfl rfl rfl (fun h=>?_) (fun h=>?_)|refine ZL rfl rfl rfl (fun h=>?_) (fun h=>?_)|refine ZK rfl rfl rfl (fun h=>?_) (fun h=>?_)|refine Zp rfl rfl rfl (fun h=>?_) (fun h=>?_)|refine Zo rfl rfl rfl (fun h=>?_) (fun h=>?_)|refine Zl rfl rfl rfl (fun h=>?_) (fun h=>?_)) <;> (first|(exfalso;first|omega|contradiction)|(dsimp only [z0,z1])))|refine WC.ret ?_));all_goals (first|((repeat clear hK);(repeat clear Kx))))
 all_goals try (exfalso;first|contradiction|omega)
 (refine ⟨trivial,_,rfl,?_⟩;exact fD)
set_option maxHeartbeats 32000000 in
theorem keep58_p (l:Cx):Fn Tryz.prog 3 [dS Cpx l] (dB true):=by
 (refine ZG Tryz.func3 rfl rfl ?_;simp only [Tryz.ntmps3,List.length_cons,List.length_nil,Nat.reduceAdd,Nat.reduceSub,List.replicate_succ,List.replicate_zero,List.cons_append,List.nil_append])
 have c0:=ZQL l
 cases hg:ZGa l with
 | false =>
  rw [hg] at c0
  ((repeat' (first|(apply WL.opN;exact yF;dsimp only [ZB,z0,z1])|refine WL.nil ?_|refine ZA fun Kx hK=>?_|(refine hK _ _ ?_;clear hK)|refine WC.region ?_|(apply ZF;(focus (first|exact wN|(apply SYG.yes;(exact wY);((first|(exact SY.box (OpD.t rfl) ZAT)|(apply SY.call (ZIS) Tryz.call4;(exact aD))|(apply SY.call (c0) Tryz.call5;(exact aD))|((first|apply SY.move|apply SY.assign|apply SY.lss|apply SY.neq|apply SY.not) <;> (exact oD))|fail);all_goals infer_instance))));dsimp only [ZB,z0,z1])|(apply WC.condNB;(exact oD);all_goals (intro h;try exact xD))|refine WC.skip ?_|refine WC.ret ?_|refine ThenD.r ?_));all_goals (first|((repeat clear hK);(repeat clear Kx))))
  all_goals first|(exfalso;omega)|(refine ⟨trivial,_,rfl,?_⟩;exact fD)
 | true =>
  rw [hg] at c0
  obtain ⟨G,hwh,hl30⟩:=ZN1 hg
  have hR:=ZQ9 G (by omega)
  have h0:=Zr.2 G
  have h0d:=Zr.2 hR.good
  have hwd:=hR.whole
  have c1:=ZE8 l h0 (ZE7 G (by omega))
  have c2:=ZLn l
  rw [show ZOA l=((ZAV l).1,(ZAV l).2,0) by unfold ZOA;rw [if_neg (by rw [h0];omega),if_neg (by omega)]] at c2
  have c3:=ZE8 (ZAV l).1 h0d (ZE7 hR.good (by omega))
  have c4:=ZFd l
  rw [ZIh G (by omega)] at c4
  have c5:=ZFd (ZAV l).1
  rw [ZIh hR.good (by omega),hR.eul] at c5
  have c6:=ZKf l
  rw [show ZLf l=(Zq l,0) from if_neg (by rw [h0];omega)] at c6
  have c7:=ZLy l (ZAV l).2 (ZAV l).1 fun _=>by omega
  rw [ZSK G hR.good (by omega) hR.steps] at c7
  have s1:=ZFv (ZF7 l) (ZG6 h0)
  have s2:=ZFv (ZF7 (ZAV l).1) (ZG6 h0d)
  rw [<- ZPT G (by omega)] at s2
  have s3:=ZIf (ZAj (ZF7 l)) (ZAj (ZF7 l))
  rw [decide_eq_true rfl] at s3
  have hst:∀ (i:Nat) (h:i<(Zq l).length),Fn Tryz.prog 13 [dS Cpx l,dS Col (Zq l)[i]] (dT [dS Cpx (ZAC l (Zq l)[i]),dI 0]):=fun i h=>by
   have:=ZLA l (Zq l)[i] fun _=>by omega
   rwa [ZOR G (List.getElem_mem h) (by omega)] at this
  have hbt:∀ (i:Nat) (h:i<(Zq l).length),∃ A,A.length≤1000/\ZAj A=ZAj (ZF7 l)/\Fn Tryz.prog 6 [dS Cpx (ZAC l (Zq l)[i])] (dT [dS ZBk A,dI 0]):=fun i h=>by
   have hok:=ZBU G (List.getElem_mem h)
   have G2:=ZBf G hok (by omega)
   have hw2:=ZCG G hok
   have h02:=Zr.2 G2
   exact ⟨ZF7 (ZAC l (Zq l)[i]),ZG6 h02,(ZMp G hok).symm,ZE8 _ h02 (ZE7 G2 (by omega))⟩
  clear hR h0 h0d hwd G hwh hl30 hg
  generalize (ZAV l).1=D at *
  generalize (ZAV l).2=M at *
  generalize ZF7 D=BD at *
  generalize ZF7 l=BL at *
  generalize ZAj BL=SL at *
  generalize ZEs l 8=EU at *
  generalize Zq l=L at *
  simp only at c2 c4 c5 c6
  obtain ⟨m,hm⟩:∃ m:Nat,min L.length 3=m:=⟨_,rfl⟩
  have e1:(if (3:Int)<(L.length:Int) then (3:Int) else (L.length:Int))=(m:Int):=by split <;> omega
  have hmL:m≤L.length:=by omega
  have hml:(L.take m).length=m:=by rw [List.length_take];omega
  (repeat' (first|(apply WL.opN;exact yF;dsimp only [ZB,z0,z1])|refine WL.nil ?_|refine ZA fun Kx hK=>?_|(refine hK _ _ ?_;clear hK)|refine WC.region ?_ |  (refine WL.alloc (dst:=some 5) tzC (Ze rfl) fun b5=>?_;dsimp only [ZB,z0,z1]) |  (refine ZI tyC rfl (OpD.t rfl) ZAT ?_;dsimp only [ZB,z0,z1])|(apply ZF;(focus (first|exact wN|(apply SYG.yes;(exact wY);((first|(exact SY.box (OpD.t rfl) ZAT)|(apply SY.call (ZIS) Tryz.call4;(exact aD))|(apply SY.load;exact tyC;exact OpD.t rfl)|(apply SY.call (c0) Tryz.call5;(exact aD))|(apply SY.call (c1) Tryz.call6;exact ArgsD.cons (OpD.t rfl) (ArgsD.nil))|(apply SY.call (c2) Tryz.call7;(exact aD))|(apply SY.call (c3) Tryz.call6;exact ArgsD.cons (OpD.t rfl) (ArgsD.nil))|(apply SY.call (c4) Tryz.call8;exact ArgsD.cons (OpD.t rfl) (ArgsD.nil))|(apply SY.call (c5) Tryz.call8;exact ArgsD.cons (OpD.t rfl) (ArgsD.nil))|(apply SY.call (c6) Tryz.call9;(exact aD))|(apply SY.call (s1) Tryz.call11;exact ArgsD.cons (OpD.t rfl) (ArgsD.nil))|(apply SY.call (s2) Tryz.call11;exact ArgsD.cons (OpD.t rfl) (ArgsD.nil))|(apply SY.call (s3) Tryz.call10;(exact aD))|(apply SY.call (c7) Tryz.call12;(exact aD))|(exact ZJ8 e1 (OpD.t rfl) OpD.i)|(refine ZGw ZKU (R:=Col) (_gR:=inferInstance) (xs:=L) (OpD.t rfl) (OpD.t rfl) m rfl hmL)|((first|apply SY.move|apply SY.assign|apply SY.lss|apply SY.neq|apply SY.not) <;> (exact oD))|((first|apply SY.add) <;> first|exact oD|omega)|(apply SY.len;(exact oD);(exact nD);(exact uD))|(apply Zj;(exact oD);(with_reducible rfl);(exact oD))|(apply SY.extract;(exact oD);rfl)|fail);all_goals infer_instance))));dsimp only [ZB,z0,z1])|((first|refine ZM rfl rfl rfl (fun h=>?_) (fun h=>?_)|refine ZL rfl rfl rfl (fun h=>?_) (fun h=>?_)|refine ZK rfl rfl rfl (fun h=>?_) (fun h=>?_)) <;> (first|(exfalso;first|omega|contradiction)|(dsimp only [z0,z1])))|(apply WC.condN;(exact oD);all_goals (intro h;try exact xD))|(apply WC.condNB;(exact oD);all_goals (intro h;try exact xD))|refine WC.skip ?_|refine WC.block ?_))
  all_goals try (exfalso;first|contradiction|omega)
  (refine ZH (X:=Nat) (fun i=>[(96,dI (i:Int)),(2,dA),(17,dA),(18,dA),(19,dA),(20,dA),(21,dA),(97,dA),(98,dA),(99,dA),(100,dA),(101,dA),(102,dA),(103,dA),(104,dA),(105,dA),(106,dA),(107,dA),(108,dA),(109,dA),(110,dA),(111,dA),(112,dA),(113,dA),(114,dA),(115,dA),(116,dA),(117,dA),(118,dA),(119,dA),(120,dA),(121,dA),(122,dA),(123,dA),(124,dA),(125,dA)]) (fun i=>[]) (fun i=>(L.take m).length-i) (fun i=>i≤(L.take m).length) 0 ?start ?frame0 ?objs0 ?round)
  case start=>exact Nat.zero_le _
  case frame0=>((try dsimp only [ZQ,z0,z1]);repeat (first|exact LeF.nil|refine ZD (k:=?_)))
  case objs0=>rfl
  case round =>
   rintro i hi
   dsimp only [ZQ,z0,z1]
   by_cases hil:i<(L.take m).length
   ·have hiI:(i:Int)<((L.take m).length:Int):=by omega
    have hiL:i<L.length:=by omega
    have hge:(L.take m)[i]=L[i]:=List.getElem_take
    have d1:=hst i hiL
    obtain ⟨A,a1,a2,d2⟩:=hbt i hiL
    have s4:=ZFv A a1
    rw [a2] at s4
    obtain ⟨x,hx⟩:∃ x,L[i]=x:=⟨_,rfl⟩
    rw [hx] at d1 d2 hge
    generalize ZAC l x=LX at *
    ((repeat' (first|(apply WL.opN;exact yF;dsimp only [ZB,z0,z1])|refine WL.nil ?_|refine ZA fun Kx hK=>?_|(refine hK _ _ ?_;clear hK)|refine WC.region ?_ |  (refine WL.alloc (dst:=some 17) ZTL ZEI fun b17=>?_;dsimp only [ZB,z0,z1]) |  (refine ZI ZRF rfl (OpD.t rfl) Zy ?_;dsimp only [ZB,z0,z1]) |  (refine WL.alloc (dst:=some 18) tzC (Ze rfl) fun b18=>?_;dsimp only [ZB,z0,z1]) |  (refine ZI tyC rfl (OpD.t rfl) ZAT ?_;dsimp only [ZB,z0,z1])|(apply ZF;(focus (first|exact wN|(apply SYG.yes;(exact wY);((first|(exact ZE4 (R:=Col) (_gR:=inferInstance) ZKU hil hge (OpD.t rfl) (OpD.t rfl))|(apply SY.call (d1) Tryz.call13;(exact aD))|(apply SY.call (d2) Tryz.call6;exact ArgsD.cons (OpD.t rfl) (ArgsD.nil))|(apply SY.call (s1) Tryz.call11;exact ArgsD.cons (OpD.t rfl) (ArgsD.nil))|(apply SY.call (s4) Tryz.call11;exact ArgsD.cons (OpD.t rfl) (ArgsD.nil))|(apply SY.call (s3) Tryz.call10;(exact aD))|((first|apply SY.move|apply SY.assign|apply SY.lss|apply SY.neq|apply SY.not) <;> (exact oD))|((first|apply SY.add) <;> first|exact oD|omega)|(apply Zj;(exact oD);(with_reducible rfl);(exact oD))|(apply SY.extract;(exact oD);rfl)|fail);all_goals infer_instance))));dsimp only [ZB,z0,z1])|((first|refine ZM rfl rfl rfl (fun h=>?_) (fun h=>?_)|refine ZL rfl rfl rfl (fun h=>?_) (fun h=>?_)|refine ZK rfl rfl rfl (fun h=>?_) (fun h=>?_)) <;> (first|(exfalso;first|omega|contradiction)|(dsimp only [z0,z1])))|(apply WC.condD;(exact oD);all_goals (intro h;try exact xD))|(apply WC.condNB;(exact oD);all_goals (intro h;try exact xD))|refine WC.skip ?_|refine WC.block ?_|refine ThenD.n ?_));all_goals (first|((repeat clear hK);(repeat clear Kx))))
    all_goals try (exfalso;first|contradiction|omega)
    (refine ⟨i+1,?_,by first|omega|(simp only;omega),rfl,?_⟩;rotate_left;((try dsimp only [ZQ,z0,z1]);repeat (first|exact LeF.nil|refine ZD (k:=?_)));(try dsimp only))
    exact hil
   ·have hiI:¬ (i:Int)<((L.take m).length:Int):=by omega
    ((repeat' (first|(apply WL.opN;exact yF;dsimp only [ZB,z0,z1])|refine WL.nil ?_|refine ZA fun Kx hK=>?_|(refine hK _ _ ?_;clear hK)|(refine Kont.skip ?_;clear hK)|refine WC.region ?_|(apply ZF;(focus (first|exact wN|(apply SYG.yes;(exact wY);((first|((first|apply SY.move|apply SY.assign|apply SY.lss|apply SY.neq|apply SY.not) <;> (exact oD))|fail);all_goals infer_instance))));dsimp only [ZB,z0,z1])|(apply WC.condD;(exact oD);all_goals (intro h;try exact xD))|refine WC.ret ?_|refine WC.exit ?_));all_goals (first|((repeat clear hK);(repeat clear Kx))))
    all_goals try (exfalso;first|contradiction|omega)
    (refine ⟨trivial,_,rfl,?_⟩;exact fD)
end
section
open Go.ChangeShapes Go.WideShapes Go.ChangeAt Go.RowKit

theorem own:ownKnob Tryz.prog.godebug=none:=by kernel_rfl
theorem ZRp:laidOutB Tryz.prog=true:=by kernel_rfl
theorem ZSZ:Tryz.prog.cellsOf 47=2:=by kernel_rfl
theorem ZSY:Tryz.prog.cellsOf 41=1:=by kernel_rfl
theorem ZQx:Tryz.prog.cellsOf 3=1:=by kernel_rfl

section
variable {H:Type} {enc:TypeId × Value->H}
theorem ZS8 {w:World} {fuel:Nat} {v:Value} {x:DataW H × List MemPlace} (h:DataW.trod enc Tryz.prog w 0 (fun _=>true) true fuel 41 [v]=some x) :
  ∃ xs,ZJ ZL0 w v xs:=by
 rcases Deep.open_slice_pairs Tryz.underlying41 Tryz.underlying47 ZSZ rfl rfl ZQx ZQx h with ⟨hc,_⟩|⟨a,len,cap,m,n,V0,V1,D0,D1,P0,P1,hc,_,hl,hm,hmm,_,hx⟩
 ·obtain rfl:v = .slice none 0 0:=by simpa using hc
  exact ⟨[],ZFO (by decide)⟩
 ·obtain rfl:v = .slice (some a) len cap:=by simpa using hc
  simp only [if_true] at hmm
  subst hmm
  have hz:∀ i,∃ p:Int × Int,i<m->V0 i = .int .i64 p.1/\V1 i = .int .i64 p.2:=fun i=>by
   by_cases hi:i<m
   ·obtain ⟨_,_,h2,h3⟩:=hx i hi
    obtain ⟨p,hp,_⟩:=DataW.trod_int Tryz.underlying3 h2
    obtain ⟨q,hq,_⟩:=DataW.trod_int Tryz.underlying3 h3
    exact ⟨(p,q),fun _=>⟨by simpa using hp,by simpa using hq⟩⟩
   ·exact ⟨(0,0),fun h=>absurd h hi⟩
  obtain ⟨z,hz⟩:=Classical.axiomOfChoice hz
  have hlen:((List.range len).map z).length=len:=by simp
  refine ⟨(List.range len).map z,some a,m,by rw [hlen],by rw [hlen];exact hl,hm,by decide,fun k hk=>?_⟩
  rw [hlen] at hk
  obtain ⟨h0,h1,_⟩:=hx k (by omega)
  have hs:=World.cell?_spot (hx 0 (by omega)).1
  obtain ⟨b,off,sp⟩:=a
  obtain rfl:sp=none:=by simpa [Addr.add] using hs
  obtain ⟨e0,e1⟩:=hz k (by omega)
  refine ⟨[.int .i64 (z k).1,.int .i64 (z k).2],b,off,by simp [RV],rfl,by simp [Value.oneCell'],rfl,trivial,fun j c hc=>?_⟩
  rw [Addr.add_lit] at h0 h1
  match j,hc with
  | 0,hc=>cases hc;rw [Nat.add_zero,<- e0];exact h0
  | 1,hc=>cases hc;rw [<- e1,Nat.add_assoc];exact h1
theorem ZS7 {w:World} {fuel:Nat} {v:Value} {x:DataW H × List MemPlace} (h:DataW.trod enc Tryz.prog w 0 (fun _=>true) true fuel 22 [v]=some x) :
  ∃ xs,ZBN ZL0 w v xs:=by
 rcases Deep.open_slice1 Tryz.underlying22 ZSY h with ⟨hc,_⟩|⟨a,len,cap,m,n,V,D,Pl,hc,_,hl,hm,hmm,_,hx⟩
 ·obtain rfl:v = .slice none 0 0:=by simpa using hc
  exact ⟨[],ZDJ⟩
 ·obtain rfl:v = .slice (some a) len cap:=by simpa using hc
  simp only [if_true] at hmm
  subst hmm
  have hz:∀ i,∃ xs:List (Int × Int),i<m->ZJ ZL0 w (V i) xs:=fun i=>by
   by_cases hi:i<m
   ·obtain ⟨xs,h1⟩:=ZS8 (hx i hi).2
    exact ⟨xs,fun _=>h1⟩
   ·exact ⟨[],fun h=>absurd h hi⟩
  obtain ⟨z,hz⟩:=Classical.axiomOfChoice hz
  have hlen:((List.range len).map z).length=len:=by simp
  refine ⟨(List.range len).map z,some a,m,by rw [hlen],by rw [hlen];exact hl,hm,fun k hk=>?_⟩
  rw [hlen] at hk
  obtain ⟨h0,_⟩:=hx k (by omega)
  have hs:=World.cell?_spot (hx 0 (by omega)).1
  obtain ⟨b,off,sp⟩:=a
  obtain rfl:sp=none:=by simpa [Addr.add] using hs
  have hv:=hz k (by omega)
  refine ⟨V k,b,off,by simpa using hv,?_,rfl,trivial,by rw [Addr.add_lit] at h0;exact h0⟩
  obtain ⟨a',c',hv',_⟩:=hv
  rw [hv'];rfl
end

section
variable {H:Type} {enc:TypeId × Value->H}

theorem ZIQ {W W':World} (hE:Ext W W'):∀ {ts:List TypeId} {vs:List Value} {ds:List (DataW H)} {ps:List MemPlace},(∀ t∈ts,Tryz.prog.readableRec t=true/\t<Tryz.prog.types.size)->(∀ p∈ps,p.block<W.heap.size) ->
  DataW.TrodAll enc Tryz.prog W 0 (fun _=>true) true ts vs ds ps->DataW.TrodAll enc Tryz.prog W' 0 (fun b=>decide (b<W.heap.size)) true ts vs ds ps
 | [],_,_,_,_,_,h=>by
  obtain ⟨rfl,rfl,rfl⟩:=trodAll_nil h
  exact trodAll_mk0
 | t::ts,_,_,_,ht,hlt,h=>by
  obtain ⟨v,vs1,d,ds1,a,b,rfl,rfl,rfl,h1,h2⟩:=trodAll_cons h
  exact trodAll_cons_mk (Below.trod ZRp (ht t (by simp)).1 (ht t (by simp)).2 h1 hE (fun x hx=>hlt x (by simp [hx]))) (ZIQ hE (fun t' h'=>ht t' (by simp [h'])) (fun p hp=>hlt p (by simp [hp])) h2)

theorem post_law {f:Func} {s:ChangeSpec} {W W':World} {args:Array Value} {ds gs:List (DataW H)} {before:List MemPlace} (hW:DataW.Whole enc Tryz.prog f.params.toList s.vars false W args.toList ds gs before) (hvars:s.vars=[])
  (hr:f.resultTypes=#[4]) (hs:s.fn H ds={ results:=[.lit (.bool true)],args:=ds }) (ht:∀ t∈f.params.toList,Tryz.prog.readableRec t=true/\t<Tryz.prog.types.size) (hE:Ext W W') :
  s.post enc Tryz.prog f false true false false W args (.bool true) W':=by
 have hlt:=hW.lt
 have hW':=hW
 obtain ⟨p,q,hA,hV,rfl,hfz,hnd⟩:=hW
 rw [hvars] at hV
 obtain ⟨rfl,rfl⟩:=trodVars_none hV
 refine ⟨ds,[],p++[],[],p,[],hW',?_,?_,?_,hE.frame _,fun h=>by cases h⟩
 ·rw [hr,List.append_nil,hs]
  exact trodAll_mk1 (shut_bool Tryz.underlying4 true)
 ·rw [List.append_nil,hs]
  exact ZIQ hE ht (fun x hx=>hlt x (by simp [hx])) hA
 ·rw [hvars,List.append_nil,hs]
  rfl
theorem fn_law {f:FuncId} {ds:List Dat} (hF:Fn Tryz.prog f ds (dB true)) {W:World} {vs:List Value} (hl:vs.length=ds.length) (h:∀ (i:Nat) (d:Dat),ds[i]?=some d->d.rd ZL0 W (vs.getD i undef)) :
  Calls Tryz.prog f vs.toArray W fun e W'=>e = .returned (.bool true)/\Ext W W' :=
 (hF.out ZL0 W vs hl h).mono fun _ _ ⟨_,h1,h2,h3⟩=>by cases (h3:_=_);exact ⟨h1,h2⟩
end
end
section
open Go.ChangeShapes Go.WideShapes Go.ChangeAt Go.RowKit
section
variable {H:Type} {enc:TypeId × Value->H}
theorem ZSX:Tryz.prog.cellsOf 24=1:=by kernel_rfl
theorem ZRU:Tryz.prog.cellsOf 22=1:=by kernel_rfl
theorem open_C' {w:World} {r:Reach} {b0:Nat} {v:Value} {d:DataW H} {ps:List MemPlace} (hv:Value.okWide Tryz.prog w r b0 24 v) (h:DataW.Trod enc Tryz.prog w 0 (fun _=>true) true 24 v d ps):∃ xs,(dS Cpx xs).rd ZL0 w v:=by
 obtain ⟨fuel,h⟩:=h
 obtain ⟨cs,rfl,hcs⟩:=okWide_struct Tryz.underlying24 hv
 rw [ZSX] at hcs
 obtain ⟨u,rfl⟩:=Array.size_eq_one_iff.1 hcs
 obtain ⟨y0,n,hy,hl,h0⟩:=trod_struct1 Tryz.underlying24 h
 have h0':DataW.trod enc Tryz.prog w 0 (fun _=>true) true n 22 [u]=some y0:=by
  have e:Tryz.prog.cellsOf 22=1:=ZRU
  simpa [Value.cells,e] using h0
 obtain ⟨xs,hx⟩:=ZS7 h0'
 refine ⟨xs,u,rfl,?_,hx⟩
 obtain ⟨a,c,hu,_⟩:=hx
 rw [hu];rfl
end
end
end Go.Proofs.YtokmalofdapffaaGreat
