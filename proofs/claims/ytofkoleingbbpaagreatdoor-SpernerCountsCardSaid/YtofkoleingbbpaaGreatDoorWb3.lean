/- Part 3: walks by contracts, and plain laws. -/
import Derived.Test.YtofkoleingbbpaaGreatDoorWa43
import Derived.Test.YtofkoleingbbpaaGreatDoorWb2
set_option linter.unusedVariables false
set_option linter.unusedSimpArgs false
set_option linter.unusedSectionVars false
set_option maxRecDepth 100000
set_option maxHeartbeats 4000000
namespace Go.Proofs.YtofkoleingbbpaaGreatDoor
section
open Go.RowKit

def ZIf (m:Int):Bool:=(List.range 8).any fun i=>decide (m=((2 ^ i:Nat):Int))
theorem ZSC {m:Int} {k:Nat} (hk:k<8) (h:m=((2 ^ k:Nat):Int)):ZIf m=true:=List.any_eq_true.2 ⟨k,List.mem_range.2 hk,decide_eq_true h⟩
theorem ZT8 {m:Int} (h:∀ i,i<8->m≠((2 ^ i:Nat):Int)):ZIf m=false:=by
 unfold ZIf
 rw [List.any_eq_false]
 intro i hi
 simp only [decide_eq_true_eq]
 exact h i (List.mem_range.1 hi)
set_option maxHeartbeats 4000000 in
theorem ZPP (m:Int):Fn Tryz.prog 76 [dI m] (dB (ZIf m)):=by
 obtain ⟨o,ho⟩:∃ o,ZIf m=o:=⟨_,rfl⟩
 rw [ho]
 (refine ZE Tryz.func76 rfl rfl ?_;simp only [Tryz.ntmps76,List.length_cons,List.length_nil,Nat.reduceAdd,Nat.reduceSub,List.replicate_succ,List.replicate_zero,List.cons_append,List.nil_append])
 (repeat' (first|(apply WL.opN;exact yF;dsimp only [ZC,z0,z1])|refine WL.nil ?_|refine ZA fun Kx hK=>?_|(refine hK _ _ ?_;clear hK)|refine WC.region ?_|refine WC.block ?_))
 all_goals try (exfalso;first|contradiction|omega)
 (refine WC.loopU (X:=Nat) (fun k=>[(3,dI (k:Int)),(2,dA),(4,dA),(5,dA),(6,dA),(7,dA),(8,dA),(9,dA),(10,dA),(11,dA)]) (fun k=>[]) (fun k=>8-k) (fun k=>k≤8/\∀ i,i<k->m≠((2 ^ i:Nat):Int)) 0 ?start ?frame0 ?objs0 ?round)
 case start=>exact ⟨Nat.zero_le _,fun i h=>absurd h (Nat.not_lt_zero i)⟩
 case frame0=>((try dsimp only [ZK,z0,z1]);repeat (first|exact LeF.nil|refine ZD (k:=?_)))
 case objs0=>rfl
 case round =>
  rintro k ⟨hk,hno⟩
  dsimp only [ZK,z0,z1]
  by_cases hkl:k<8
  ·have hkI:(k:Int)<8:=by omega
   have hk8:k≤8:=by omega
   obtain ⟨N,hN⟩:∃ N,2 ^ k=N:=⟨_,rfl⟩
   by_cases he:m=(N:Int)
   ·rw [ZSC hkl (by rw [hN];exact he)] at ho
    subst ho
    ((repeat' (first|(apply WL.opN;exact yF;dsimp only [ZC,z0,z1])|refine WL.nil ?_|refine ZA fun Kx hK=>?_|(refine hK _ _ ?_;clear hK)|refine WC.region ?_|(apply WL.opN;(focus ((first|(refine hN ▸ ZFp hk8 OpD.i (OpD.t rfl))|((first|apply SY.move|apply SY.assign|apply SY.lss|apply SY.eql) <;> (exact oD))|fail);all_goals infer_instance));dsimp only [ZC,z0,z1])|(apply ZB;(exact oD);all_goals (intro h;try exact xD))|refine WC.skip ?_|refine WC.ret ?_|refine WC.block ?_|refine ThenD.r ?_|refine InBlockD.r ?_));all_goals (first|((repeat clear hK);(repeat clear Kx))))
    all_goals try (exfalso;first|contradiction|omega)
    (refine ⟨trivial,_,rfl,?_⟩;exact fD)
   ·((repeat' (first|(apply WL.opN;exact yF;dsimp only [ZC,z0,z1])|refine WL.nil ?_|refine ZA fun Kx hK=>?_|(refine hK _ _ ?_;clear hK)|refine WC.region ?_|(apply WL.opN;(focus ((first|(refine hN ▸ ZFp hk8 OpD.i (OpD.t rfl))|((first|apply SY.move|apply SY.assign|apply SY.lss|apply SY.eql) <;> (exact oD))|((first|apply SY.add) <;> first|exact oD|omega)|fail);all_goals infer_instance));dsimp only [ZC,z0,z1])|(apply ZB;(exact oD);all_goals (intro h;try exact xD))|refine WC.skip ?_|refine WC.block ?_|refine ThenD.n ?_));all_goals (first|((repeat clear hK);(repeat clear Kx))))
    all_goals try (exfalso;first|contradiction|omega)
    (refine ⟨k+1,?_,by first|omega|(simp only;omega),rfl,?_⟩;rotate_left;((try dsimp only [ZK,z0,z1]);repeat (first|exact LeF.nil|refine ZD (k:=?_)));(try dsimp only))
    refine ⟨hkl,fun i hi=>?_⟩
    by_cases e:i=k
    ·rw [e,hN];exact he
    ·exact hno i (by omega)
  ·have hkI:¬ (k:Int)<8:=by omega
   rw [ZT8 fun i hi=>hno i (by omega)] at ho
   subst ho
   ((repeat' (first|(apply WL.opN;exact yF;dsimp only [ZC,z0,z1])|refine WL.nil ?_|refine ZA fun Kx hK=>?_|(refine hK _ _ ?_;clear hK)|(refine Kont.skip ?_;clear hK)|refine WC.region ?_|(apply WL.opN;(focus ((first|((first|apply SY.move|apply SY.assign|apply SY.lss|apply SY.eql) <;> (exact oD))|fail);all_goals infer_instance));dsimp only [ZC,z0,z1])|(apply ZB;(exact oD);all_goals (intro h;try exact xD))|refine WC.ret ?_|refine WC.exit ?_));all_goals (first|((repeat clear hK);(repeat clear Kx))))
   all_goals try (exfalso;first|contradiction|omega)
   (refine ⟨trivial,_,rfl,?_⟩;exact fD)
set_option maxHeartbeats 4000000 in
theorem ZLl (vs:List Vx) (A:List Int) (hl:A.length≤1000000):Fn Tryz.prog 37 [dS Lab (vs,A)] (dB (A.all ZIf)):=by
 obtain ⟨o,ho⟩:∃ o,A.all ZIf=o:=⟨_,rfl⟩
 rw [ho]
 (refine ZE Tryz.func37 rfl rfl ?_;simp only [Tryz.ntmps37,List.length_cons,List.length_nil,Nat.reduceAdd,Nat.reduceSub,List.replicate_succ,List.replicate_zero,List.cons_append,List.nil_append])
 (repeat' (first|(apply WL.opN;exact yF;dsimp only [ZC,z0,z1])|refine WL.nil ?_|refine ZA fun Kx hK=>?_|(refine hK _ _ ?_;clear hK)|refine WC.region ?_|(apply WL.opN;(focus ((first|(apply SY.box;(exact oD);(exact hD))|fail);all_goals infer_instance));dsimp only [ZC,z0,z1])|refine WC.block ?_))
 all_goals try (exfalso;first|contradiction|omega)
 (refine WC.loopU (X:=Nat) (fun k=>[(3,dI (k:Int)),(2,dA),(4,dA),(5,dA),(6,dA),(7,dA),(8,dA),(9,dA),(10,dA),(11,dA),(12,dA),(13,dA),(14,dA),(15,dA),(16,dA),(17,dA)]) (fun k=>[]) (fun k=>A.length-k) (fun k=>k≤A.length/\(A.drop k).all ZIf=o) 0 ?start ?frame0 ?objs0 ?round)
 case start=>exact ⟨Nat.zero_le _,ho⟩
 case frame0=>((try dsimp only [ZK,z0,z1]);repeat (first|exact LeF.nil|refine ZD (k:=?_)))
 case objs0=>rfl
 case round =>
  rintro k ⟨hk,hE⟩
  dsimp only [ZK,z0,z1]
  by_cases hkl:k<A.length
  ·have hkI:(k:Int)<(A.length:Int):=by omega
   have c1:=ZPP A[k]
   rw [List.drop_eq_getElem_cons hkl,List.all_cons] at hE
   cases hs:ZIf A[k] with
   | false =>
    rw [hs] at c1
    rw [hs,Bool.false_and] at hE
    subst hE
    ((repeat' (first|(apply WL.opN;exact yF;dsimp only [ZC,z0,z1])|refine WL.nil ?_|refine ZA fun Kx hK=>?_|(refine hK _ _ ?_;clear hK)|refine WC.region ?_|(apply WL.opN;(focus ((first|(refine ZP Zx (OpD.t rfl) Zh rfl rfl)|(apply SY.load;exact ZBv;exact OpD.t rfl)|(refine SY.ix (R:=RI) (_gR:=inferInstance) elI (OpD.t rfl) (OpD.t rfl) hkl)|(apply SY.call (c1) Tryz.call76;(exact aD))|((first|apply SY.move|apply SY.assign|apply SY.lss|apply SY.not) <;> (exact oD))|(apply SY.len;(exact oD);(exact nD);(exact uD))|fail);all_goals infer_instance));dsimp only [ZC,z0,z1])|(apply ZB;(exact oD);all_goals (intro h;try exact xD))|(apply ZM;(exact oD);all_goals (intro h;try exact xD))|refine WC.skip ?_|refine WC.ret ?_|refine WC.block ?_|refine ThenD.r ?_|refine InBlockD.r ?_));all_goals (first|((repeat clear hK);(repeat clear Kx))))
    all_goals try (exfalso;first|contradiction|omega)
    (refine ⟨trivial,_,rfl,?_⟩;exact fD)
   | true =>
    rw [hs] at c1
    rw [hs,Bool.true_and] at hE
    ((repeat' (first|(apply WL.opN;exact yF;dsimp only [ZC,z0,z1])|refine WL.nil ?_|refine ZA fun Kx hK=>?_|(refine hK _ _ ?_;clear hK)|refine WC.region ?_|(apply WL.opN;(focus ((first|(refine ZP Zx (OpD.t rfl) Zh rfl rfl)|(apply SY.load;exact ZBv;exact OpD.t rfl)|(refine SY.ix (R:=RI) (_gR:=inferInstance) elI (OpD.t rfl) (OpD.t rfl) hkl)|(apply SY.call (c1) Tryz.call76;(exact aD))|((first|apply SY.move|apply SY.assign|apply SY.lss|apply SY.not) <;> (exact oD))|((first|apply SY.add) <;> first|exact oD|omega)|(apply SY.len;(exact oD);(exact nD);(exact uD))|fail);all_goals infer_instance));dsimp only [ZC,z0,z1])|(apply ZB;(exact oD);all_goals (intro h;try exact xD))|(apply ZM;(exact oD);all_goals (intro h;try exact xD))|refine WC.skip ?_|refine WC.block ?_|refine ThenD.n ?_));all_goals (first|((repeat clear hK);(repeat clear Kx))))
    all_goals try (exfalso;first|contradiction|omega)
    (refine ⟨k+1,?_,by first|omega|(simp only;omega),rfl,?_⟩;rotate_left;((try dsimp only [ZK,z0,z1]);repeat (first|exact LeF.nil|refine ZD (k:=?_)));(try dsimp only))
    exact ⟨hkl,hE⟩
  ·have hkI:¬ (k:Int)<(A.length:Int):=by omega
   rw [List.drop_of_length_le (by omega)] at hE
   have h0:o=true:=hE.symm
   subst h0
   ((repeat' (first|(apply WL.opN;exact yF;dsimp only [ZC,z0,z1])|refine WL.nil ?_|refine ZA fun Kx hK=>?_|(refine hK _ _ ?_;clear hK)|(refine Kont.skip ?_;clear hK)|refine WC.region ?_|(apply WL.opN;(focus ((first|(refine ZP Zx (OpD.t rfl) Zh rfl rfl)|(apply SY.load;exact ZBv;exact OpD.t rfl)|((first|apply SY.move|apply SY.assign|apply SY.lss|apply SY.not) <;> (exact oD))|(apply SY.len;(exact oD);(exact nD);(exact uD))|fail);all_goals infer_instance));dsimp only [ZC,z0,z1])|(apply ZB;(exact oD);all_goals (intro h;try exact xD))|refine WC.ret ?_|refine WC.exit ?_));all_goals (first|((repeat clear hK);(repeat clear Kx))))
   all_goals try (exfalso;first|contradiction|omega)
   (refine ⟨trivial,_,rfl,?_⟩;exact fD)
end
section
open Go.RowKit

theorem ZT9:∀ m:Fin 256,m.val≠0->decide (ZMx (m.val:Int) ((m.val:Int)-1)=0)=ZIf (m.val:Int):=by decide +kernel
theorem ZWB {A:List Int} (h:∀ a∈A,1≤a/\a<256):ZR7 A=A.all ZIf:=by
 unfold ZR7
 rw [List.any_eq_not_all_not,Bool.not_not]
 induction A with
 | nil=>rfl
 | cons a A ih =>
  obtain ⟨h1,h2⟩:=h a (by simp)
  obtain ⟨n,rfl⟩:=Int.eq_ofNat_of_zero_le (show 0≤a by omega)
  rw [List.all_cons,List.all_cons,ih fun b hb=>h b (by simp [hb]),Bool.not_not,ZT9 ⟨n,by omega⟩ (by simp only;omega)]
end
section
open Go.RowKit

theorem ZBl {l:Cx} (h:∀ s∈l,s.length≤8) (k:Nat):(ZCP (l.take k)).length≤8*k:=by
 have h1:=ZGF (l:=l.take k) fun s hs=>h s (List.mem_of_mem_take hs)
 have h2:=(ZA3 (l.take k).flatten []).2
 have h3:(l.take k).length≤k:=List.length_take_le _ _
 unfold ZCP
 simp only [List.length_nil] at h2
 omega
theorem ZCZ (l:Cx) (h8:∀ s∈l,s.length≤8) (hl:l.length≤100):Fn Tryz.prog 88 [dS Cpx l] (dS ZN (ZCP l)):=by
 (refine ZE Tryz.func88 rfl rfl ?_;simp only [Tryz.ntmps88,List.length_cons,List.length_nil,Nat.reduceAdd,Nat.reduceSub,List.replicate_succ,List.replicate_zero,List.cons_append,List.nil_append])
 (repeat' (first|(apply WL.opN;exact yF;dsimp only [ZC,z0,z1])|refine WL.nil ?_|refine ZA fun Kx hK=>?_|(refine hK _ _ ?_;clear hK)|refine WC.region ?_|(apply WL.opN;(focus ((first|(apply SY.box;(exact oD);(exact hD))|fail);all_goals infer_instance));dsimp only [ZC,z0,z1])|refine WC.block ?_))
 (refine WC.loopU (X:=Nat) (fun k=>[(4,dI (k:Int)),(3,dS ZN (ZCP (l.take k))),(5,dA),(6,dA),(7,dA),(8,dA),(9,dA),(10,dA),(11,dA),(12,dA),(13,dA),(14,dA),(15,dA),(16,dA),(17,dA),(18,dA)]) (fun k=>[]) (fun k=>l.length-k) (fun k=>k≤l.length) 0 ?start ?frame0 ?objs0 ?round)
 case start=>exact Nat.zero_le _
 case frame0=>((try dsimp only [ZK,z0,z1]);repeat (first|exact LeF.nil|refine ZD (k:=?_)))
 case objs0=>rfl
 case round =>
  rintro k h1
  have hp:=ZBl h8 k
  dsimp only [ZK,z0,z1]
  by_cases hk:k<l.length
  ·have c1:=ZHB (ZCP (l.take k)) l[k] (by omega) (by have:=h8 _ (List.getElem_mem hk);omega)
   rw [<- ZC7 hk] at c1
   ((repeat' (first|(apply WL.opN;exact yF;dsimp only [ZC,z0,z1])|refine WL.nil ?_|refine ZA fun Kx hK=>?_|(refine hK _ _ ?_;clear hK)|refine WC.region ?_|(apply WL.opN;(focus ((first|(apply SY.call (c1) Tryz.call126;(exact aD))|((first|apply SY.move|apply SY.assign|apply SY.lss) <;> (exact oD))|((first|apply SY.add) <;> first|exact oD|omega)|(apply SY.len;(exact oD);(exact nD);(exact uD))|(apply SY.ix;(exact eD);(exact oD);(exact oD);exact kD)|(apply ZBg ZIz;exact OpD.t rfl)|fail);all_goals infer_instance));dsimp only [ZC,z0,z1])|(apply ZB;(exact oD);all_goals (intro h;try exact xD))|refine WC.skip ?_|refine WC.block ?_|refine ThenD.n ?_));all_goals (first|((repeat clear hK);(repeat clear Kx))))
   (refine ⟨k+1,?_,by first|omega|(simp only;omega),rfl,?_⟩;rotate_left;((try dsimp only [ZK,z0,z1]);repeat (first|exact LeF.nil|refine ZD (k:=?_)));(try dsimp only))
   omega
  ·((repeat' (first|(apply WL.opN;exact yF;dsimp only [ZC,z0,z1])|refine WL.nil ?_|refine ZA fun Kx hK=>?_|(refine hK _ _ ?_;clear hK)|(refine Kont.skip ?_;clear hK)|refine WC.region ?_|(apply WL.opN;(focus ((first|((first|apply SY.move|apply SY.assign|apply SY.lss) <;> (exact oD))|(apply SY.len;(exact oD);(exact nD);(exact uD))|(apply ZBg ZIz;exact OpD.t rfl)|fail);all_goals infer_instance));dsimp only [ZC,z0,z1])|(apply ZB;(exact oD);all_goals (intro h;try exact xD))|refine WC.ret ?_|refine WC.exit ?_));all_goals (first|((repeat clear hK);(repeat clear Kx))))
   rw [List.take_of_length_le (by omega)]
   (refine ⟨trivial,_,rfl,?_⟩;exact fD)
end
section
open Go.RowKit

theorem ZH5 {l:Cx} {f:Vx->Int}:ZFX l f=(ZCP l).all fun v=>!decide (f v=0):=by
 unfold ZFX
 rw [Bool.eq_iff_iff,List.all_eq_true,List.all_eq_true]
 constructor
 ·intro h v hv
  obtain ⟨s,hs,hvs⟩:=ZDK.1 hv
  have:=h s hs
  simp only [Bool.not_eq_true',List.any_eq_false,decide_eq_true_eq] at this
  simpa using this v hvs
 ·intro h s hs
  simp only [Bool.not_eq_true',List.any_eq_false,decide_eq_true_eq]
  intro v hv
  simpa using h v (ZDK.2 ⟨s,hs,hv⟩)
set_option maxHeartbeats 4000000 in
theorem ZDv (l:Cx) (vs:List Vx) (A:List Int) (hA:A.length=vs.length) (hl:vs.length≤1000000) (h8:∀ s∈l,s.length≤8) (hll:l.length≤100):Fn Tryz.prog 49 [dS Cpx l,dS Lab (vs,A)] (dB (ZFX l (ZZ vs A))):=by
 have c1:=ZCZ l h8 hll
 rw [ZH5]
 have hpl:=ZBl h8 l.length
 rw [List.take_length] at hpl
 generalize ZCP l=p at c1 hpl
 obtain ⟨o,ho⟩:∃ o,(p.all fun v=>!decide (ZZ vs A v=0))=o:=⟨_,rfl⟩
 rw [ho]
 (refine ZE Tryz.func49 rfl rfl ?_;simp only [Tryz.ntmps49,List.length_cons,List.length_nil,Nat.reduceAdd,Nat.reduceSub,List.replicate_succ,List.replicate_zero,List.cons_append,List.nil_append])
 (repeat' (first|((first|apply WL.opN|apply WD.opN);exact yF;dsimp only [ZC,z0,z1])|refine WL.nil ?_|refine ZA fun Kx hK=>?_|(refine hK _ _ ?_;clear hK)|refine WC.region ?_|((first|apply WL.opN|apply WD.opN);(focus ((first|(apply SY.call (c1) Tryz.call88;(exact aD))|(apply SY.box;(exact oD);(exact hD))|fail);all_goals infer_instance));dsimp only [ZC,z0,z1])|refine WC.block ?_))
 all_goals try (exfalso;first|contradiction|omega)
 (refine WC.loopU (X:=Nat) (fun k=>[(6,dI (k:Int)),(4,dA),(9,dA),(10,dA),(11,dA),(12,dA),(13,dA),(14,dA),(15,dA),(16,dA),(17,dA),(18,dA),(19,dA),(20,dA),(21,dA)]) (fun k=>[]) (fun k=>p.length-k) (fun k=>k≤p.length/\((p.drop k).all fun v=>!decide (ZZ vs A v=0))=o) 0 ?start ?frame0 ?objs0 ?round)
 case start=>exact ⟨Nat.zero_le _,ho⟩
 case frame0=>((try dsimp only [ZK,z0,z1]);repeat (first|exact LeF.nil|refine ZD (k:=?_)))
 case objs0=>rfl
 case round =>
  rintro k ⟨hk,hE⟩
  dsimp only [ZK,z0,z1]
  by_cases hkl:k<p.length
  ·have hkI:(k:Int)<(p.length:Int):=by omega
   have c2:=ZFk vs A p[k] hA hl
   rw [List.drop_eq_getElem_cons hkl,List.all_cons] at hE
   by_cases hz:ZZ vs A p[k]=0
   ·rw [hz] at c2
    rw [decide_eq_true hz] at hE
    have h0:o=false:=by rw [<- hE];rfl
    subst h0
    ((repeat' (first|((first|apply WL.opN|apply WD.opN);exact yF;dsimp only [ZC,z0,z1])|refine WL.nil ?_|refine WD.nil ?_|refine ZA fun Kx hK=>?_|(refine hK _ _ ?_;clear hK)|refine WC.region ?_|(apply WC.draw;kernel_rfl;kernel_rfl)|((first|apply WL.opN|apply WD.opN);(focus ((first|(apply SY.load;exact ZAI;exact OpD.t rfl)|(apply SY.call (c2) Tryz.call89;(exact aD))|((first|apply SY.move|apply SY.assign|apply SY.lss|apply SY.eql) <;> (exact oD))|(apply SY.len;(exact oD);(exact nD);(exact uD))|(apply Zc;(exact eD);(exact oD);(exact oD);exact kD)|fail);all_goals infer_instance));dsimp only [ZC,z0,z1])|(apply ZB;(exact oD);all_goals (intro h;try exact xD))|refine WC.skip ?_|refine WC.ret ?_|refine WC.block ?_|refine ThenD.r ?_|refine InBlockD.r ?_));all_goals (first|((repeat clear hK);(repeat clear Kx))))
    all_goals try (exfalso;first|contradiction|omega)
    (refine ⟨trivial,_,rfl,?_⟩;exact fD)
   ·rw [decide_eq_false hz] at hE
    ((repeat' (first|((first|apply WL.opN|apply WD.opN);exact yF;dsimp only [ZC,z0,z1])|refine WL.nil ?_|refine WD.nil ?_|refine ZA fun Kx hK=>?_|(refine hK _ _ ?_;clear hK)|refine WC.region ?_|(apply WC.draw;kernel_rfl;kernel_rfl)|((first|apply WL.opN|apply WD.opN);(focus ((first|(apply SY.load;exact ZAI;exact OpD.t rfl)|(apply SY.call (c2) Tryz.call89;(exact aD))|((first|apply SY.move|apply SY.assign|apply SY.lss|apply SY.eql) <;> (exact oD))|((first|apply SY.add) <;> first|exact oD|omega)|(apply SY.len;(exact oD);(exact nD);(exact uD))|(apply Zc;(exact eD);(exact oD);(exact oD);exact kD)|fail);all_goals infer_instance));dsimp only [ZC,z0,z1])|(apply ZB;(exact oD);all_goals (intro h;try exact xD))|refine WC.skip ?_|refine WC.block ?_|refine ThenD.n ?_));all_goals (first|((repeat clear hK);(repeat clear Kx))))
    all_goals try (exfalso;first|contradiction|omega)
    (refine ⟨k+1,?_,by first|omega|(simp only;omega),rfl,?_⟩;rotate_left;((try dsimp only [ZK,z0,z1]);repeat (first|exact LeF.nil|refine ZD (k:=?_)));(try dsimp only))
    exact ⟨hkl,hE⟩
  ·have hkI:¬ (k:Int)<(p.length:Int):=by omega
   rw [List.drop_of_length_le (by omega)] at hE
   have h0:o=true:=hE.symm
   subst h0
   ((repeat' (first|((first|apply WL.opN|apply WD.opN);exact yF;dsimp only [ZC,z0,z1])|refine WL.nil ?_|refine ZA fun Kx hK=>?_|(refine hK _ _ ?_;clear hK)|(refine Kont.skip ?_;clear hK)|refine WC.region ?_|((first|apply WL.opN|apply WD.opN);(focus ((first|((first|apply SY.move|apply SY.assign|apply SY.lss|apply SY.eql) <;> (exact oD))|(apply SY.len;(exact oD);(exact nD);(exact uD))|fail);all_goals infer_instance));dsimp only [ZC,z0,z1])|(apply ZB;(exact oD);all_goals (intro h;try exact xD))|refine WC.ret ?_|refine WC.exit ?_));all_goals (first|((repeat clear hK);(repeat clear Kx))))
   all_goals try (exfalso;first|contradiction|omega)
   (refine ⟨trivial,_,rfl,?_⟩;exact fD)
end
section
open Go.RowKit

def ZJ9 (f:Vx->Int) (s:List Vx):Bool:=decide (orL f s=((2 ^ s.length-1:Nat):Int))
set_option maxHeartbeats 4000000 in
theorem ZKA (vs:List Vx) (A:List Int) (s:List Vx) (hA:A.length=vs.length) (hl:vs.length≤1000000) (h8:s.length≤8):Fn Tryz.prog 50 [dS Lab (vs,A),dS ZN s] (dB (ZJ9 (ZZ vs A) s)):=by
 unfold ZJ9
 have hp:=ZXJ ⟨s.length,by omega⟩
 simp only at hp
 have h1:1≤2 ^ s.length:=Nat.one_le_two_pow
 have e1:((2 ^ s.length-1:Nat):Int)=((2 ^ s.length:Nat):Int)-1:=by omega
 rw [e1]
 obtain ⟨N,hN⟩:∃ N,2 ^ s.length=N:=⟨_,rfl⟩
 rw [hN] at hp ⊢
 have ht:=ZEZ vs A s hA hl
 (refine ZE Tryz.func50 rfl rfl ?_;simp only [Tryz.ntmps50,List.length_cons,List.length_nil,Nat.reduceAdd,Nat.reduceSub,List.replicate_succ,List.replicate_zero,List.cons_append,List.nil_append])
 ((repeat' (first|((first|apply WL.opN|apply WD.opN);exact yF;dsimp only [ZC,z0,z1])|refine WL.nil ?_|refine WD.nil ?_|refine ZA fun Kx hK=>?_|(refine hK _ _ ?_;clear hK)|refine WC.region ?_|(apply WC.draw;kernel_rfl;kernel_rfl)|((first|apply WL.opN|apply WD.opN);(focus ((first|(apply SY.load;exact ZAI;exact OpD.t rfl)|(apply SY.call (ht) Tryz.call90;(exact aD))|(refine hN ▸ ZFp h8 OpD.i (OpD.t rfl))|((first|apply SY.move|apply SY.assign|apply SY.eql) <;> (exact oD))|((first|apply SY.sub) <;> first|exact oD|omega)|(apply SY.len;(exact oD);(exact nD);(exact uD))|(apply SY.box;(exact oD);(exact hD))|fail);all_goals infer_instance));dsimp only [ZC,z0,z1])|refine WC.ret ?_));all_goals (first|((repeat clear hK);(repeat clear Kx))))
 all_goals try (exfalso;first|contradiction|omega)
 (refine ⟨trivial,_,rfl,?_⟩;exact fD)
set_option maxHeartbeats 8000000 in
theorem ZL4 (l:Cx) (vs:List Vx) (A:List Int) (hll:l.length≤100):Fn Tryz.prog 16 [dS Cpx l,dS Lab (vs,A)] (dT [dS Zo (ZI2 l vs A).1,dI (ZI2 l vs A).2]):=by
 have c1:=ZDV l
 have c2:=ZET vs A
 obtain ⟨o,ho⟩:∃ o,ZI2 l vs A=o:=⟨_,rfl⟩
 rw [ho]
 unfold ZI2 at ho
 (refine ZAF Tryz.func16 rfl rfl ?_;simp only [Tryz.ntmps16,List.length_cons,List.length_nil,Nat.reduceAdd,Nat.reduceSub,List.replicate_succ,List.replicate_zero,List.cons_append,List.nil_append])
 by_cases h1:ZAl l≠0
 ·rw [if_pos h1] at ho;subst ho
  ((repeat' (first|((first|apply WL.opN|apply WD.opN);exact yF;dsimp only [ZC,z0,z1])|refine WL.nil ?_|refine ZA fun Kx hK=>?_|(refine hK _ _ ?_;clear hK)|refine WC.region ?_|((first|apply WL.opN|apply WD.opN);(focus ((first|(apply SY.call (c1) Tryz.call48;(exact aD))|((first|apply SY.move|apply SY.assign|apply SY.lss|apply SY.neq|apply SY.not) <;> (exact oD))|(apply SY.box;(exact oD);(exact hD))|fail);all_goals infer_instance));dsimp only [ZC,z0,z1])|(apply ZG;(exact oD);all_goals (intro h;try exact xD))|refine WC.ret ?_|refine ThenD.r ?_));all_goals (first|((repeat clear hK);(repeat clear Kx))))
  all_goals try (exfalso;first|contradiction|omega)
  (refine ⟨trivial,⟨_,rfl,?_⟩,_,rfl,?_⟩ <;> exact fD)
 rw [if_neg h1] at ho
 have h1':ZAl l=0:=Classical.byContradiction h1
 rw [h1'] at c1
 by_cases h2:Z9 vs A≠0
 ·rw [if_pos h2] at ho;subst ho
  ((repeat' (first|((first|apply WL.opN|apply WD.opN);exact yF;dsimp only [ZC,z0,z1])|refine WL.nil ?_|refine ZA fun Kx hK=>?_|(refine hK _ _ ?_;clear hK)|refine WC.region ?_|((first|apply WL.opN|apply WD.opN);(focus ((first|(apply SY.call (c1) Tryz.call48;(exact aD))|(apply SY.call (c2) Tryz.call14;(exact aD))|(apply SY.load;exact ZAI;exact OpD.t rfl)|((first|apply SY.move|apply SY.assign|apply SY.lss|apply SY.neq|apply SY.not) <;> (exact oD))|(apply SY.box;(exact oD);(exact hD))|fail);all_goals infer_instance));dsimp only [ZC,z0,z1])|(apply ZG;(exact oD);all_goals (intro h;try exact xD))|refine WC.skip ?_|refine WC.ret ?_|refine ThenD.r ?_));all_goals (first|((repeat clear hK);(repeat clear Kx))))
  all_goals try (exfalso;first|contradiction|omega)
  (refine ⟨trivial,⟨_,rfl,?_⟩,_,rfl,?_⟩ <;> exact fD)
 rw [if_neg h2] at ho
 have h2':Z9 vs A=0:=Classical.byContradiction h2
 rw [h2'] at c2
 obtain ⟨g1,g2,g3,g4,g5⟩:=ZAU h2'
 have h8:∀ s∈l,s.length≤8:=fun s hs=>(ZAA.1 h1').short s hs
 have c3:=ZDv l vs A g2 (by omega) h8 hll
 have c4:=ZLl vs A (by omega)
 rw [<- ZWB g5] at c4
 by_cases h3:ZFX l (ZZ vs A)=false
 ·rw [if_pos h3] at ho;subst ho
  rw [h3] at c3
  ((repeat' (first|((first|apply WL.opN|apply WD.opN);exact yF;dsimp only [ZC,z0,z1])|refine WL.nil ?_|refine ZA fun Kx hK=>?_|(refine hK _ _ ?_;clear hK)|refine WC.region ?_|((first|apply WL.opN|apply WD.opN);(focus ((first|(apply SY.call (c1) Tryz.call48;(exact aD))|(apply SY.call (c2) Tryz.call14;(exact aD))|(apply SY.call (c3) Tryz.call49;(exact aD))|(apply SY.load;exact ZAI;exact OpD.t rfl)|((first|apply SY.move|apply SY.assign|apply SY.lss|apply SY.neq|apply SY.not) <;> (exact oD))|(apply SY.box;(exact oD);(exact hD))|fail);all_goals infer_instance));dsimp only [ZC,z0,z1])|(apply ZG;(exact oD);all_goals (intro h;try exact xD))|(apply ZM;(exact oD);all_goals (intro h;try exact xD))|refine WC.skip ?_|refine WC.ret ?_|refine ThenD.r ?_));all_goals (first|((repeat clear hK);(repeat clear Kx))))
  all_goals try (exfalso;first|contradiction|omega)
  (refine ⟨trivial,⟨_,rfl,?_⟩,_,rfl,?_⟩ <;> exact fD)
 rw [if_neg h3] at ho
 rw [show ZFX l (ZZ vs A)=true by simpa using h3] at c3
 by_cases h4:ZR7 A=false
 ·rw [if_pos h4] at ho;subst ho
  rw [h4] at c4
  ((repeat' (first|((first|apply WL.opN|apply WD.opN);exact yF;dsimp only [ZC,z0,z1])|refine WL.nil ?_|refine ZA fun Kx hK=>?_|(refine hK _ _ ?_;clear hK)|refine WC.region ?_|((first|apply WL.opN|apply WD.opN);(focus ((first|(apply SY.call (c1) Tryz.call48;(exact aD))|(apply SY.call (c2) Tryz.call14;(exact aD))|(apply SY.call (c3) Tryz.call49;(exact aD))|(apply SY.call (c4) Tryz.call37;(exact aD))|(apply SY.load;exact ZAI;exact OpD.t rfl)|((first|apply SY.move|apply SY.assign|apply SY.lss|apply SY.neq|apply SY.not) <;> (exact oD))|(apply SY.box;(exact oD);(exact hD))|fail);all_goals infer_instance));dsimp only [ZC,z0,z1])|(apply ZG;(exact oD);all_goals (intro h;try exact xD))|(apply ZM;(exact oD);all_goals (intro h;try exact xD))|refine WC.skip ?_|refine WC.ret ?_|refine ThenD.r ?_));all_goals (first|((repeat clear hK);(repeat clear Kx))))
  all_goals try (exfalso;first|contradiction|omega)
  (refine ⟨trivial,⟨_,rfl,?_⟩,_,rfl,?_⟩ <;> exact fD)
 rw [if_neg h4] at ho;subst ho
 rw [show ZR7 A=true by simpa using h4] at c4
 refine Zt 22 ZN ?_
 (repeat' (first|((first|apply WL.opN|apply WD.opN);exact yF;dsimp only [ZC,z0,z1])|refine WL.nil ?_|refine ZA fun Kx hK=>?_|(refine hK _ _ ?_;clear hK)|refine WC.region ?_|((first|apply WL.opN|apply WD.opN);(focus ((first|(apply SY.call (c1) Tryz.call48;(exact aD))|(apply SY.call (c2) Tryz.call14;(exact aD))|(apply SY.call (c3) Tryz.call49;(exact aD))|(apply SY.call (c4) Tryz.call37;(exact aD))|(apply SY.load;exact ZAI;exact OpD.t rfl)|((first|apply SY.move|apply SY.assign|apply SY.lss|apply SY.neq|apply SY.not) <;> (exact oD))|(apply SY.box;(exact oD);(exact hD))|fail);all_goals infer_instance));dsimp only [ZC,z0,z1])|(apply ZG;(exact oD);all_goals (intro h;try exact xD))|(apply ZM;(exact oD);all_goals (intro h;try exact xD))|refine WC.skip ?_|refine WC.block ?_))
 all_goals try (exfalso;first|contradiction|omega)
 (refine WC.loopU (X:=Nat × Value) (fun x=>[(9,dI (x.1:Int)),(8,dX x.2),(27,dA),(28,dA),(29,dA),(30,dA),(31,dA),(32,dA),(33,dA),(34,dA),(35,dA),(36,dA),(37,dA),(38,dA),(39,dA),(40,dA),(41,dA),(42,dA),(43,dA),(44,dA),(45,dA),(46,dA),(47,dA),(48,dA)]) (fun x=>([Zp x.2 22 ZN (ZPY (l.take x.1) (ZZ vs A))])) (fun x=>l.length-x.1) (fun x=>x.1≤l.length) (0,.slice none 0 0) ?start ?frame0 ?objs0 ?round)
 case start=>exact Nat.zero_le _
 case frame0=>((try dsimp only [ZK,z0,z1]);repeat (first|exact LeF.nil|refine ZD (k:=?_)))
 case objs0=>rfl
 case round =>
  rintro ⟨j,v⟩ h5
  simp only at h5
  dsimp only [ZK,z0,z1]
  by_cases hj:j<l.length
  ·have hjI:(j:Int)<(l.length:Int):=by omega
   have hsn:=ZIW (f:=ZZ vs A) hj
   have hrl:(ZPY (l.take j) (ZZ vs A)).length≤100:=by
    unfold ZPY
    have:=List.length_filter_le (fun s=>decide (orL (ZZ vs A) s=((2 ^ s.length-1:Nat):Int))) (l.take j)
    rw [List.length_take] at this
    omega
   have h24:((ZPY (l.take j) (ZZ vs A)).length+1)*24≤140737488355328:=by omega
   have c5:=ZKA vs A l[j] g2 (by omega) (h8 _ (List.getElem_mem hj))
   unfold ZJ9 at c5
   by_cases hq:orL (ZZ vs A) l[j]=((2 ^ l[j].length-1:Nat):Int)
   ·rw [if_pos hq] at hsn
    rw [decide_eq_true hq] at c5
    ((repeat' (first|((first|apply WL.opN|apply WD.opN);exact yF;dsimp only [ZC,z0,z1])|refine WL.nil ?_|refine WD.nil ?_|refine ZA fun Kx hK=>?_|(refine hK _ _ ?_;clear hK)|refine WC.region ?_|(apply WC.draw;kernel_rfl;kernel_rfl)|((first|apply Zv|apply Zm);(exact eD);exact OpD.t rfl;(exact oD);(intro _;exact hD);(exact (by simp));(exact (by simp));(first|exact ⟨by decide,by decide⟩|skip);decide;(exact lD);(intro _;dsimp only [ZC,z0,z1]);all_goals (try infer_instance))|((first|apply WL.opN|apply WD.opN);(focus ((first|(apply SY.load;exact ZAI;exact OpD.t rfl)|(apply SY.call (c5) Tryz.call50;(exact aD))|((first|apply SY.move|apply SY.assign|apply SY.lss|apply SY.neq|apply SY.not) <;> (exact oD))|((first|apply SY.add) <;> first|exact oD|omega)|(apply SY.len;(exact oD);(exact nD);(exact uD))|(apply SY.ix;(exact eD);(exact oD);(exact oD);exact kD)|(apply ZBg ZIz;exact OpD.t rfl)|fail);all_goals infer_instance));dsimp only [ZC,z0,z1])|(apply Zb;(exact oD);(with_reducible rfl))|(apply ZB;(exact oD);all_goals (intro h;try exact xD))|refine WC.skip ?_|refine WC.block ?_|refine ThenD.n ?_));all_goals (first|((repeat clear hK);(repeat clear Kx))))
    all_goals try (exfalso;first|contradiction|omega)
    rw [<- hsn]
    (refine ⟨(j+1,_),?_,by first|omega|(simp only;omega),rfl,?_⟩;rotate_left;((try dsimp only [ZK,z0,z1]);repeat (first|exact LeF.nil|refine ZD (k:=?_)));(try dsimp only))
    exact hj
   ·rw [if_neg hq,List.append_nil] at hsn
    rw [decide_eq_false hq] at c5
    ((repeat' (first|((first|apply WL.opN|apply WD.opN);exact yF;dsimp only [ZC,z0,z1])|refine WL.nil ?_|refine WD.nil ?_|refine ZA fun Kx hK=>?_|(refine hK _ _ ?_;clear hK)|refine WC.region ?_|(apply WC.draw;kernel_rfl;kernel_rfl)|((first|apply WL.opN|apply WD.opN);(focus ((first|(apply SY.load;exact ZAI;exact OpD.t rfl)|(apply SY.call (c5) Tryz.call50;(exact aD))|((first|apply SY.move|apply SY.assign|apply SY.lss|apply SY.neq|apply SY.not) <;> (exact oD))|((first|apply SY.add) <;> first|exact oD|omega)|(apply SY.len;(exact oD);(exact nD);(exact uD))|(apply SY.ix;(exact eD);(exact oD);(exact oD);exact kD)|(apply ZBg ZIz;exact OpD.t rfl)|fail);all_goals infer_instance));dsimp only [ZC,z0,z1])|(apply ZQ;(exact oD);(with_reducible rfl))|(apply ZB;(exact oD);all_goals (intro h;try exact xD))|refine WC.skip ?_|refine WC.block ?_|refine ThenD.n ?_));all_goals (first|((repeat clear hK);(repeat clear Kx))))
    all_goals try (exfalso;first|contradiction|omega)
    rw [<- hsn]
    (refine ⟨(j+1,v),?_,by first|omega|(simp only;omega),rfl,?_⟩;rotate_left;((try dsimp only [ZK,z0,z1]);repeat (first|exact LeF.nil|refine ZD (k:=?_)));(try dsimp only))
    exact hj
  ·have hjI:¬ (j:Int)<(l.length:Int):=by omega
   obtain rfl:j=l.length:=by omega
   rw [List.take_length]
   ((repeat' (first|((first|apply WL.opN|apply WD.opN);exact yF;dsimp only [ZC,z0,z1])|refine WL.nil ?_|refine ZA fun Kx hK=>?_|(refine hK _ _ ?_;clear hK)|(refine Kont.skip ?_;clear hK)|refine WC.region ?_|((first|apply WL.opN|apply WD.opN);(focus ((first|((first|apply SY.move|apply SY.assign|apply SY.lss|apply SY.neq|apply SY.not) <;> (exact oD))|(apply SY.len;(exact oD);(exact nD);(exact uD))|(apply ZBg ZIz;exact OpD.t rfl)|fail);all_goals infer_instance));dsimp only [ZC,z0,z1])|(apply ZB;(exact oD);all_goals (intro h;try exact xD))|refine WC.ret ?_|refine WC.exit ?_));all_goals (first|((repeat clear hK);(repeat clear Kx))))
   all_goals try (exfalso;first|contradiction|omega)
   (refine ⟨trivial,⟨_,rfl,?_⟩,_,rfl,?_⟩ <;> exact fD)
end
section
open Go.RowKit

set_option maxHeartbeats 8000000 in
theorem counts34L_p (l:Cx) (vs:List Vx) (A:List Int):Fn Tryz.prog 4 [dS Cpx l,dS Lab (vs,A)] (dB true):=by
 have cF:=ZJz l [(vs,A)]
 have cA:=ZEp
 cases hf:ZJy l [(vs,A)] with
 | false =>
  rw [hf] at cF
  (refine ZE Tryz.func4 rfl rfl ?_;simp only [Tryz.ntmps4,List.length_cons,List.length_nil,Nat.reduceAdd,Nat.reduceSub,List.replicate_succ,List.replicate_zero,List.cons_append,List.nil_append])
  ((repeat' (first|(apply WL.opN;exact yF;dsimp only [ZC,z0,z1])|refine WL.nil ?_|refine ZA fun Kx hK=>?_|(refine hK _ _ ?_;clear hK)|refine WC.region ?_|(apply ZF;(focus (first|exact wN|(apply SYG.yes;(exact wY);((first|(exact SY.box (OpD.t rfl) ZAD)|(exact SY.box (OpD.t rfl) Zq)|(apply SY.load;exact ZAI;exact OpD.t rfl)|(exact SY.buildE (R:=Lab) (_gR:=inferInstance) (els:=[(vs,A)]) ZNf (Zk (OpD.t rfl) Zl) rfl rfl (by decide) (fun _=>Zq) (by simp))|(apply SY.call (cF) Tryz.call9;(exact aD))|(apply SY.call (cA) Tryz.call10;(exact aD))|((first|apply SY.move|apply SY.assign|apply SY.eql|apply SY.not) <;> (exact oD))|fail);all_goals infer_instance))));dsimp only [ZC,z0,z1])|(apply ZM;(exact oD);all_goals (intro h;try exact xD))|refine WC.ret ?_|refine ThenD.r ?_));all_goals (first|((repeat clear hK);(repeat clear Kx))))
  all_goals try (exfalso;first|contradiction|omega)
  all_goals (refine ⟨trivial,_,rfl,?_⟩;exact fD)
 | true =>
  rw [hf] at cF
  have hl:=ZIA (ZGC hf).2.1
  have c1:=ZIV l vs A
  have c2:=ZL4 l vs A (by omega)
  have c3:=fun x=>ZId x
  generalize ZI2 l vs A=R at *
  obtain ⟨sb,se⟩:=R
  simp only at c1 c2
  (refine ZE Tryz.func4 rfl rfl ?_;simp only [Tryz.ntmps4,List.length_cons,List.length_nil,Nat.reduceAdd,Nat.reduceSub,List.replicate_succ,List.replicate_zero,List.cons_append,List.nil_append])
  ((repeat' (first|(apply WL.opN;exact yF;dsimp only [ZC,z0,z1])|refine WL.nil ?_|refine ZA fun Kx hK=>?_|(refine hK _ _ ?_;clear hK)|refine WC.region ?_|(apply ZF;(focus (first|exact wN|(apply SYG.yes;(exact wY);((first|(exact SY.box (OpD.t rfl) ZAD)|(exact SY.box (OpD.t rfl) Zq)|(apply SY.load;exact ZAI;exact OpD.t rfl)|(exact SY.buildE (R:=Lab) (_gR:=inferInstance) (els:=[(vs,A)]) ZNf (Zk (OpD.t rfl) Zl) rfl rfl (by decide) (fun _=>Zq) (by simp))|(exact ZBD (OpD.t rfl))|(apply SY.call (cF) Tryz.call9;(exact aD))|(apply SY.call (cA) Tryz.call10;(exact aD))|(apply SY.call (c1) Tryz.call15;(exact aD))|(apply SY.call (c2) Tryz.call16;(exact aD))|(apply SY.call (c3 sb) Tryz.call17;(exact aD))|(exact ZDP (b:=true) (decide_eq_true rfl) (OpD.t rfl) (OpD.t rfl))|((first|apply SY.move|apply SY.assign|apply SY.eql|apply SY.not) <;> (exact oD))|(apply ZY;(exact oD);(with_reducible rfl);(exact oD))|(apply SY.extract;(exact oD);rfl)|fail);all_goals infer_instance))));dsimp only [ZC,z0,z1])|(apply ZQ;(exact oD);(with_reducible rfl))|refine WC.skip ?_|refine WC.ret ?_));all_goals (first|((repeat clear hK);(repeat clear Kx))))
  all_goals try (exfalso;first|contradiction|omega)
  all_goals (refine ⟨trivial,_,rfl,?_⟩;exact fD)
end
section
open Go.ChangeShapes Go.WideShapes Go.ChangeAt Go.RowKit
section
variable {H:Type} {enc:TypeId × Value->H}
theorem ZFr:Tryz.prog.cellsOf 25=2:=by kernel_rfl
theorem ZC4:Tryz.prog.cellsOf 23=1:=by kernel_rfl
theorem ZIR {w:World} {fuel:Nat} {v:Value} {x:DataW H × List MemPlace} (h:DataW.trod enc Tryz.prog w 0 (fun _=>true) true fuel 23 [v]=some x) :
  ∃ xs,ZAa anyB w v xs:=by
 rcases Deep.open_slice1 Tryz.underlying23 ZJD h with ⟨hc,_⟩|⟨a,len,cap,m,n,V,D,Pl,hc,_,hl,hm,hmm,_,hx⟩
 ·obtain rfl:v = .slice none 0 0:=by simpa using hc
  exact ⟨[],ZBn⟩
 ·obtain rfl:v = .slice (some a) len cap:=by simpa using hc
  simp only [if_true] at hmm
  subst hmm
  have hz:∀ i,∃ c:Int,i<m->V i = .int .i64 c:=fun i=>by
   by_cases hi:i<m
   ·obtain ⟨c,ec,_⟩:=DataW.trod_int Tryz.underlying3 (hx i hi).2
    exact ⟨c,fun _=>by simpa using ec⟩
   ·exact ⟨0,fun h=>absurd h hi⟩
  obtain ⟨z,hz⟩:=Classical.axiomOfChoice hz
  have hlen:((List.range len).map z).length=len:=by simp
  refine ⟨(List.range len).map z,some a,m,by rw [hlen],by rw [hlen];exact hl,hm,fun k hk=>?_⟩
  rw [hlen] at hk
  obtain ⟨h0,_⟩:=hx k (by omega)
  have hs:=World.cell?_spot (hx 0 (by omega)).1
  obtain ⟨b,off,sp⟩:=a
  obtain rfl:sp=none:=by simpa [Addr.add] using hs
  have hv:=hz k (by omega)
  refine ⟨V k,b,off,by simpa [RI] using hv,by rw [hv];rfl,rfl,trivial,by rw [Addr.add_lit] at h0;exact h0⟩
theorem open_Lb' {w:World} {r:Reach} {b0:Nat} {v:Value} {d:DataW H} {ps:List MemPlace} (hv:Value.okWide Tryz.prog w r b0 25 v) (h:DataW.Trod enc Tryz.prog w 0 (fun _=>true) true 25 v d ps):∃ x:List Vx × List Int,(dS Lab x).rd anyB w v:=by
 obtain ⟨fuel,h⟩:=h
 obtain ⟨cs,rfl,hcs⟩:=okWide_struct Tryz.underlying25 hv
 rw [ZFr] at hcs
 obtain ⟨u,u',rfl⟩:∃ u u',cs=#[u,u']:=by
  obtain ⟨l⟩:=cs
  match l,hcs with
  | [u,u'],_=>exact ⟨u,u',rfl⟩
 obtain ⟨y0,y1,n,hy,hl,h0,h1⟩:=trod_struct2 Tryz.underlying25 h
 have h0':DataW.trod enc Tryz.prog w 0 (fun _=>true) true n 22 [u]=some y0:=by
  simpa [Value.cells,ZEc,ZC4] using h0
 have h1':DataW.trod enc Tryz.prog w 0 (fun _=>true) true n 23 [u']=some y1:=by
  simpa [Value.cells,ZEc,ZC4] using h1
 obtain ⟨xs,hx⟩:=ZIS h0'
 obtain ⟨ys,hy⟩:=ZIR h1'
 refine ⟨(xs,ys),u,u',rfl,?_,?_,hx,hy⟩
 ·obtain ⟨a,c,hu,_⟩:=hx
  rw [hu];rfl
 ·obtain ⟨a,c,hu,_⟩:=hy
  rw [hu];rfl
end
end
end Go.Proofs.YtofkoleingbbpaaGreatDoor
