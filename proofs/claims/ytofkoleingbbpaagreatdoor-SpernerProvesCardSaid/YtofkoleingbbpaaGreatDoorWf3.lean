/- Part 3: walks by contracts, and plain laws. -/
import Derived.Test.YtofkoleingbbpaaGreatDoorWa43
import Derived.Test.YtofkoleingbbpaaGreatDoorWf2
set_option linter.unusedVariables false
set_option linter.unusedSimpArgs false
set_option linter.unusedSectionVars false
set_option maxRecDepth 100000
set_option maxHeartbeats 4000000
namespace Go.Proofs.YtofkoleingbbpaaGreatDoor
section
open Go.RowKit
open C34

variable {S:Prop}
def ZJt (l:Cx) (vs:List Vx) (A:List Int) (d:Int):List Cx × Bool × Int :=
 if ZBK l vs A≠0 then ([],false,ZBK l vs A) else if d<0\/8≤d then ([],false,2) else ((ZDS l (ZZ vs A) (d.toNat+1)).getD [],(ZDS l (ZZ vs A) (d.toNat+1)).isSome,0)
set_option maxHeartbeats 8000000 in
theorem ZCu (l:Cx) (vs:List Vx) (A:List Int) (h:ZBK l vs A≠0):Fn Tryz.prog 57 [dS Cpx l,dS Lab (vs,A)] (dT [dX (.agg #[.slice none 0 0,.nilFunc]),dI (ZBK l vs A)]):=by
 have c1:=ZGB l
 have c2:=ZFs vs A
 refine ZCT ZBS Tryz.func57 rfl rfl ?_
 -- @kinds sperner.begin
 simp only [Tryz.ntmps57,List.length_cons,List.length_nil,Nat.reduceAdd,Nat.reduceSub,List.replicate_succ,List.replicate_zero,List.cons_append,List.nil_append]
 unfold ZBK at h ⊢
 by_cases h1:(ZBj l).2≠0
 ·rw [if_pos h1]
  ((repeat' (first|((first|apply WL.opN|apply WD.opN);exact yF;dsimp only [ZC,z0,z1])|refine WL.nil ?_|refine ZA fun Kx hK=>?_|(refine hK _ _ ?_;clear hK)|refine WC.region ?_ |  (refine WL.alloc (dst:=some 4) ZDF (Zf rfl rfl) fun b4=>?_;dsimp only [ZC,z0,z1]) |  (refine ZW ZBS rfl (OpD.t rfl) (Zf rfl rfl) ?_;dsimp only [ZC,z0,z1])|((first|apply WL.opN|apply WD.opN);(focus ((first|(apply SY.call (c1) Tryz.call97;(exact aD))|(exact ZBU)|((first|apply SY.move|apply SY.assign|apply SY.neq|apply SY.not) <;> (exact oD))|(apply SY.extract;(exact oD);rfl)|(apply SY.box;(exact oD);(exact hD))|fail);all_goals infer_instance));dsimp only [ZC,z0,z1])|(apply ZG;(exact oD);all_goals (intro h;try exact xD))|refine WC.ret ?_|refine ThenD.r ?_));all_goals (first|((repeat clear hK);(repeat clear Kx))))
  all_goals try (exfalso;first|contradiction|omega)
  exact ⟨trivial,⟨_,rfl,FinD.le (Dat.le_refl _)⟩,_,rfl,FinD.le (Dat.le_refl _)⟩
 have h1':(ZBj l).2=0:=Classical.byContradiction h1
 rw [if_neg h1] at h ⊢
 rw [h1'] at c1
 by_cases h2:Z9 vs A≠0
 ·rw [if_pos h2]
  ((repeat' (first|((first|apply WL.opN|apply WD.opN);exact yF;dsimp only [ZC,z0,z1])|refine WL.nil ?_|refine ZA fun Kx hK=>?_|(refine hK _ _ ?_;clear hK)|refine WC.region ?_ |  (refine WL.alloc (dst:=some 4) ZDF (Zf rfl rfl) fun b4=>?_;dsimp only [ZC,z0,z1]) |  (refine ZW ZBS rfl (OpD.t rfl) (Zf rfl rfl) ?_;dsimp only [ZC,z0,z1])|((first|apply WL.opN|apply WD.opN);(focus ((first|(apply SY.call (c1) Tryz.call97;(exact aD))|(apply SY.call (c2) Tryz.call13;(exact aD))|(apply SY.load;exact ZAI;exact OpD.t rfl)|(exact ZBU)|((first|apply SY.move|apply SY.assign|apply SY.neq|apply SY.not) <;> (exact oD))|(apply SY.extract;(exact oD);rfl)|(apply SY.box;(exact oD);(exact hD))|fail);all_goals infer_instance));dsimp only [ZC,z0,z1])|(apply ZG;(exact oD);all_goals (intro h;try exact xD))|refine WC.skip ?_|refine WC.ret ?_|refine ThenD.r ?_));all_goals (first|((repeat clear hK);(repeat clear Kx))))
  all_goals try (exfalso;first|contradiction|omega)
  exact ⟨trivial,⟨_,rfl,FinD.le (Dat.le_refl _)⟩,_,rfl,FinD.le (Dat.le_refl _)⟩
 have h2':Z9 vs A=0:=Classical.byContradiction h2
 rw [if_neg h2] at h ⊢
 rw [h2'] at c2
 obtain ⟨g1,g2,g3,g4,g5⟩:=ZAU h2'
 have c3:=ZF9 l vs A g3 g2 (by omega)
 have h3:ZFX l (ZZ vs A)=false:=by
  cases e:ZFX l (ZZ vs A) with
  | false=>rfl
  | true=>rw [if_neg (by simp [e])] at h;exact absurd rfl h
 rw [if_pos h3]
 rw [h3] at c3
 ((repeat' (first|((first|apply WL.opN|apply WD.opN);exact yF;dsimp only [ZC,z0,z1])|refine WL.nil ?_|refine ZA fun Kx hK=>?_|(refine hK _ _ ?_;clear hK)|refine WC.region ?_ |  (refine WL.alloc (dst:=some 4) ZDF (Zf rfl rfl) fun b4=>?_;dsimp only [ZC,z0,z1]) |  (refine ZW ZBS rfl (OpD.t rfl) (Zf rfl rfl) ?_;dsimp only [ZC,z0,z1])|((first|apply WL.opN|apply WD.opN);(focus ((first|(apply SY.call (c1) Tryz.call97;(exact aD))|(apply SY.call (c2) Tryz.call13;(exact aD))|(apply SY.call (c3) Tryz.call44;(exact aD))|(apply SY.load;exact ZAI;exact OpD.t rfl)|(exact ZBU)|((first|apply SY.move|apply SY.assign|apply SY.neq|apply SY.not) <;> (exact oD))|(apply SY.extract;(exact oD);rfl)|(apply SY.box;(exact oD);(exact hD))|fail);all_goals infer_instance));dsimp only [ZC,z0,z1])|(apply ZG;(exact oD);all_goals (intro h;try exact xD))|(apply ZM;(exact oD);all_goals (intro h;try exact xD))|refine WC.skip ?_|refine WC.ret ?_|refine ThenD.r ?_));all_goals (first|((repeat clear hK);(repeat clear Kx))))
 all_goals try (exfalso;first|contradiction|omega)
 exact ⟨trivial,⟨_,rfl,FinD.le (Dat.le_refl _)⟩,_,rfl,FinD.le (Dat.le_refl _)⟩
set_option maxHeartbeats 16000000 in
theorem ZHw (l:Cx) (vs:List Vx) (A:List Int) (d:Int) (h:ZBK l vs A≠0):Fn Tryz.prog 23 [dS Cpx l,dS Lab (vs,A),dI d] (dT [dS ZFf [],dB false,dI (ZBK l vs A)]):=by
 have cB:=ZCu l vs A h
 (refine ZB7 Tryz.func23 rfl rfl ?_;simp only [Tryz.ntmps23,List.length_cons,List.length_nil,Nat.reduceAdd,Nat.reduceSub,List.replicate_succ,List.replicate_zero,List.cons_append,List.nil_append])
 ((repeat' (first|((first|apply WL.opN|apply WD.opN);exact yF;dsimp only [ZC,z0,z1])|refine WL.nil ?_|refine ZA fun Kx hK=>?_|(refine hK _ _ ?_;clear hK)|refine WC.region ?_ |  (refine WL.alloc (dst:=some 9) ZDF (Zf rfl rfl) fun b9=>?_;dsimp only [ZC,z0,z1]) |  (refine ZW ZBS rfl (OpD.t rfl) (Zf rfl rfl) ?_;dsimp only [ZC,z0,z1])|((first|apply ZF|apply WD.op);(focus (first|exact wN|(apply SYG.yes;(exact wY);((first|(apply SY.load;exact ZAI;exact OpD.t rfl)|(apply SY.call (cB) Tryz.call57;(exact aD))|((first|apply SY.move|apply SY.assign|apply SY.lss|apply SY.gtr|apply SY.geq|apply SY.neq|apply SY.not) <;> (exact oD))|(apply SY.extract;(exact oD);rfl)|(apply SY.box;(exact oD);(exact hD))|fail);all_goals infer_instance))));dsimp only [ZC,z0,z1])|(apply ZG;(exact oD);all_goals (intro h;try exact xD))|refine WC.ret ?_|refine ThenD.r ?_));all_goals (first|((repeat clear hK);(repeat clear Kx))))
 all_goals try (exfalso;first|contradiction|omega)
 (refine ⟨trivial,⟨_,rfl,?_⟩,⟨_,rfl,?_⟩,_,rfl,?_⟩ <;> exact fD)
set_option maxHeartbeats 16000000 in
theorem ZHx (l:Cx) (vs:List Vx) (A:List Int) (d:Int) (h:ZBK l vs A=0) (hd:d<0\/8≤d):Fn Tryz.prog 23 [dS Cpx l,dS Lab (vs,A),dI d] (dT [dS ZFf [],dB false,dI 2]):=by
 have cB:=ZFE l vs A h
 (refine ZB7 Tryz.func23 rfl rfl ?_;simp only [Tryz.ntmps23,List.length_cons,List.length_nil,Nat.reduceAdd,Nat.reduceSub,List.replicate_succ,List.replicate_zero,List.cons_append,List.nil_append])
 by_cases h0:d<0
 ·((repeat' (first|((first|apply WL.opN|apply WD.opN);exact yF;dsimp only [ZC,z0,z1])|refine WL.nil ?_|refine ZA fun Kx hK=>?_|(refine hK _ _ ?_;clear hK)|refine WC.region ?_ |  (refine WL.alloc (dst:=some 9) ZDF (Zf rfl rfl) fun b9=>?_;dsimp only [ZC,z0,z1]) |  (refine ZW ZBS rfl (OpD.t rfl) (Z8 (n:=2) (by decide) rfl) ?_;dsimp only [ZC,z0,z1])|((first|apply ZF|apply WD.op);(focus (first|exact wN|(apply SYG.yes;(exact wY);((first|(apply SY.load;exact ZAI;exact OpD.t rfl)|(apply SY.call (cB) Tryz.call57;(exact aD))|((first|apply SY.move|apply SY.assign|apply SY.lss|apply SY.gtr|apply SY.geq|apply SY.neq|apply SY.not) <;> (exact oD))|(apply ZY;(exact oD);(with_reducible rfl);(exact oD))|(apply SY.extract;(exact oD);rfl)|(apply SY.box;(exact oD);(exact hD))|fail);all_goals infer_instance))));dsimp only [ZC,z0,z1])|((first|refine ZJ rfl rfl rfl (fun h=>?_) (fun h=>?_)|refine ZI rfl rfl rfl (fun h=>?_) (fun h=>?_)|refine ZH rfl rfl rfl (fun h=>?_) (fun h=>?_)|refine ZT rfl rfl rfl (fun h=>?_) (fun h=>?_)|refine ZS rfl rfl rfl (fun h=>?_) (fun h=>?_)|refine ZR rfl rfl rfl (fun h=>?_) (fun h=>?_)) <;> (first|(exfalso;first|omega|contradiction)|(dsimp only [z0,z1])))|(apply Zb;(exact oD);(with_reducible rfl))|(apply ZG;(exact oD);all_goals (intro h;try exact xD))|refine WC.skip ?_|refine WC.ret ?_|refine ThenD.r ?_));all_goals (first|((repeat clear hK);(repeat clear Kx))))
  all_goals try (exfalso;first|contradiction|omega)
  (refine ⟨trivial,⟨_,rfl,?_⟩,⟨_,rfl,?_⟩,_,rfl,?_⟩ <;> exact fD)
 ·have h8:d ≥ 8:=by omega
  ((repeat' (first|((first|apply WL.opN|apply WD.opN);exact yF;dsimp only [ZC,z0,z1])|refine WL.nil ?_|refine ZA fun Kx hK=>?_|(refine hK _ _ ?_;clear hK)|refine WC.region ?_ |  (refine WL.alloc (dst:=some 9) ZDF (Zf rfl rfl) fun b9=>?_;dsimp only [ZC,z0,z1]) |  (refine ZW ZBS rfl (OpD.t rfl) (Z8 (n:=2) (by decide) rfl) ?_;dsimp only [ZC,z0,z1])|((first|apply ZF|apply WD.op);(focus (first|exact wN|(apply SYG.yes;(exact wY);((first|(apply SY.load;exact ZAI;exact OpD.t rfl)|(apply SY.call (cB) Tryz.call57;(exact aD))|((first|apply SY.move|apply SY.assign|apply SY.lss|apply SY.gtr|apply SY.geq|apply SY.neq|apply SY.not) <;> (exact oD))|(apply ZX;(exact oD);(with_reducible rfl);(exact oD))|(apply SY.extract;(exact oD);rfl)|(apply SY.box;(exact oD);(exact hD))|fail);all_goals infer_instance))));dsimp only [ZC,z0,z1])|((first|refine ZJ rfl rfl rfl (fun h=>?_) (fun h=>?_)|refine ZI rfl rfl rfl (fun h=>?_) (fun h=>?_)|refine ZH rfl rfl rfl (fun h=>?_) (fun h=>?_)|refine ZT rfl rfl rfl (fun h=>?_) (fun h=>?_)|refine ZS rfl rfl rfl (fun h=>?_) (fun h=>?_)|refine ZR rfl rfl rfl (fun h=>?_) (fun h=>?_)) <;> (first|(exfalso;first|omega|contradiction)|(dsimp only [z0,z1])))|(apply ZB;(exact oD);all_goals (intro h;try exact xD))|(apply ZG;(exact oD);all_goals (intro h;try exact xD))|refine WC.skip ?_|refine WC.ret ?_|refine ThenD.r ?_));all_goals (first|((repeat clear hK);(repeat clear Kx))))
  all_goals try (exfalso;first|contradiction|omega)
  (refine ⟨trivial,⟨_,rfl,?_⟩,⟨_,rfl,?_⟩,_,rfl,?_⟩ <;> exact fD)
end
section
open Go.RowKit
open C34

variable {S:Prop}
def ZSV (l:Cx) (vs:List Vx) (A:List Int) (L:List Cx):Int:=if ZBK l vs A≠0 then ZBK l vs A else if ZFi l L≠0 then ZFi l L else ZPb l (ZZ vs A) L
set_option maxHeartbeats 16000000 in
theorem ZKi (l:Cx) (vs:List Vx) (A:List Int) (L:List Cx) (h:ZBK l vs A≠0):Fn Tryz.prog 27 [dS Cpx l,dS Lab (vs,A),dS ZFf L] (dI (ZBK l vs A)):=by
 have cB:=ZCu l vs A h
 (refine ZE Tryz.func27 rfl rfl ?_;simp only [Tryz.ntmps27,List.length_cons,List.length_nil,Nat.reduceAdd,Nat.reduceSub,List.replicate_succ,List.replicate_zero,List.cons_append,List.nil_append])
 ((repeat' (first|((first|apply WL.opN|apply WD.opN);exact yF;dsimp only [ZC,z0,z1])|refine WL.nil ?_|refine ZA fun Kx hK=>?_|(refine hK _ _ ?_;clear hK)|refine WC.region ?_ |  (refine WL.alloc (dst:=some 7) ZDF (Zf rfl rfl) fun b9=>?_;dsimp only [ZC,z0,z1]) |  (refine ZW ZBS rfl (OpD.t rfl) (Zf rfl rfl) ?_;dsimp only [ZC,z0,z1])|((first|apply WL.opN|apply WD.opN);(focus ((first|(apply SY.load;exact ZAI;exact OpD.t rfl)|(apply SY.call (cB) Tryz.call57;(exact aD))|((first|apply SY.move|apply SY.assign|apply SY.lss|apply SY.gtr|apply SY.eql|apply SY.neq|apply SY.not) <;> (exact oD))|(apply SY.extract;(exact oD);rfl)|(apply SY.box;(exact oD);(exact hD))|fail);all_goals infer_instance));dsimp only [ZC,z0,z1])|(apply ZG;(exact oD);all_goals (intro h;try exact xD))|refine WC.ret ?_|refine ThenD.r ?_));all_goals (first|((repeat clear hK);(repeat clear Kx))))
 all_goals try (exfalso;first|contradiction|omega)
 (refine ⟨trivial,_,rfl,?_⟩;exact fD)
set_option maxHeartbeats 16000000 in
theorem ZKj (l:Cx) (vs:List Vx) (A:List Int) (L:List Cx) (h:ZBK l vs A=0) (hfr:ZFi l L≠0) (hLs:∀ lv∈L,lv.length≤1000000):Fn Tryz.prog 27 [dS Cpx l,dS Lab (vs,A),dS ZFf L] (dI (ZFi l L)):=by
 have cB:=ZFE l vs A h
 have cF:=ZGq l (ZZ vs A) L (ZA4 (ZDI h)).1 hLs
 (refine ZE Tryz.func27 rfl rfl ?_;simp only [Tryz.ntmps27,List.length_cons,List.length_nil,Nat.reduceAdd,Nat.reduceSub,List.replicate_succ,List.replicate_zero,List.cons_append,List.nil_append])
 ((repeat' (first|((first|apply WL.opN|apply WD.opN);exact yF;dsimp only [ZC,z0,z1])|refine WL.nil ?_|refine ZA fun Kx hK=>?_|(refine hK _ _ ?_;clear hK)|refine WC.region ?_ |  (refine WL.alloc (dst:=some 7) ZDF (Zf rfl rfl) fun b9=>?_;dsimp only [ZC,z0,z1]) |  (refine ZW ZBS rfl (OpD.t rfl) (Z8 (n:=2) (by decide) rfl) ?_;dsimp only [ZC,z0,z1])|((first|apply WL.opN|apply WD.opN);(focus ((first|(apply SY.load;exact ZAI;exact OpD.t rfl)|(apply SY.load;exact ZBS;exact OpD.t rfl)|(apply SY.call (cB) Tryz.call57;(exact aD))|(apply SY.call (cF) Tryz.call67;(exact aD))|((first|apply SY.move|apply SY.assign|apply SY.lss|apply SY.gtr|apply SY.eql|apply SY.neq|apply SY.not) <;> (exact oD))|(apply SY.extract;(exact oD);rfl)|(apply SY.box;(exact oD);(exact hD))|fail);all_goals infer_instance));dsimp only [ZC,z0,z1])|(apply ZG;(exact oD);all_goals (intro h;try exact xD))|refine WC.skip ?_|refine WC.ret ?_|refine ThenD.r ?_));all_goals (first|((repeat clear hK);(repeat clear Kx))))
 all_goals try (exfalso;first|contradiction|omega)
 (refine ⟨trivial,_,rfl,?_⟩;exact fD)
end
section
open Go.RowKit
open C34
theorem ZCs (m k:Nat):ZNr (m:Int) ((k:Int)+1)=((m >>> (min (k+1) 64):Nat):Int):=by
 unfold ZNr
 rw [show ((k:Int)+1).toNat=k+1 by omega,Nat.shiftRight_eq_div_pow]
 rw [Int.fdiv_eq_ediv_of_nonneg _ (by exact Int.le_of_lt (Int.pow_pos (by decide)))]
 simp
end
section
open Go.RowKit
open L05 (plus hdI pivN rw' swapI ZCR stepR ZSc echR)
namespace L05
def ZWR (R:List (List Int)) (n:Nat) (c:Int) (j:Nat):List Int:=if j≠n/\c∈rw' R j then L05.plus (rw' R j) (rw' R n) else rw' R j
def ZKp (R:List (List Int)) (n:Nat) (c:Int) (i:Nat):List (List Int):=(List.range R.length).map fun j=>if j<i then ZWR R n c j else rw' R j
end L05
open L05 (ZKp ZWR)



end
section
open Go.RowKit
open L05 (hdI rw' echR wd ZAw solR)
namespace L05
def ZWz (E:List (List Int)) (C:Int) (j:Nat):List Int:=((E.take j).filter fun r=>decide (C∈r)).map hdI
end L05
open L05 (ZWz)



end
section
open Go.RowKit
open C34

theorem ZAx {P:Program} {ops:Array Oper} {hp:List HObj} {fr:List Dat} {dst:Option Tmp} {ty:TypeId} {ps:String} {af:Array Edge} {g:Option (Nat × Bool)} {T T2:TypeId} {p q:Int} {b:Bool} {x y:Operand} (h:decide (p=q)=b) (hx:OpD fr x (dI p)) (hy:OpD fr y (dI q)):SY P ops hp ⟨dst,.binOp .eql T x y T2,ty,ps,af,g⟩ fr (dB b):=ZDP h hx hy
end
section
open Go.RowKit
open C34

theorem ZDG {P:Program} {f:FuncId} {d0 d0' d1 d2 res:Dat} (h:Fn P f [d0',d1,d2] res) (hle:d0.le d0'):Fn P f [d0,d1,d2] res:=Fn.mk fun I w vs hl hv=>h.out I w vs hl fun i d hd=>by
 match i,hd with
 | 0,hd=>cases hd;exact hle _ _ _ (hv 0 d0 rfl)
 | 1,hd=>exact hv 1 _ hd
 | 2,hd=>exact hv 2 _ hd
 | i+3,hd=>simp at hd
theorem ZG6 (l:Cx) (vs:List Vx) (A:List Int) (L:List Cx) (hF:ZGf l≤400) (hLs:∀ lv∈L,lv.length≤1000):Fn Tryz.prog 27 [dS CpxL l,dS Lab (vs,A),dS ZFf L] (dI (ZSV l vs A L)):=by
 unfold ZSV
 by_cases h1:ZBK l vs A≠0
 ·rw [if_pos h1];exact ZDG (ZKi l vs A L h1) ZBR
 rw [if_neg h1]
 have h1':ZBK l vs A=0:=Classical.byContradiction h1
 by_cases h2:ZFi l L≠0
 ·rw [if_pos h2];exact ZDG (ZKj l vs A L h1' h2 fun lv h=>by have:=hLs lv h;omega) ZBR
 rw [if_neg h2]
 have h2':ZFi l L=0:=Classical.byContradiction h2
 by_cases h3:l=[]
 ·subst h3
  exact ZDG (ZG5 (S:=True) [] vs A L h1' h2' hF hLs (fun _=>by unfold ZEm;simp) (.inr trivial)) (fun I w v h=>ZE7 trivial I w v (ZBR I w v h))
 ·exact ZG5 (S:=False) l vs A L h1' h2' hF hLs (fun h=>h.elim) (.inl h3)
end
section
open Go.RowKit
open C34

theorem ZJp (l:Cx) (vs:List Vx) (A:List Int) (d:Int) (hF:ZGf l≤400):Fn Tryz.prog 23 [dS CpxL l,dS Lab (vs,A),dI d] (dT [dS ZFf (ZJt l vs A d).1,dB (ZJt l vs A d).2.1,dI (ZJt l vs A d).2.2]):=by
 unfold ZJt
 by_cases h1:ZBK l vs A≠0
 ·rw [if_pos h1];exact ZDG (ZHw l vs A d h1) ZBR
 rw [if_neg h1]
 have h1':ZBK l vs A=0:=Classical.byContradiction h1
 by_cases h2:d<0\/8≤d
 ·rw [if_pos h2];exact ZDG (ZHx l vs A d h1' h2) ZBR
 rw [if_neg h2]
 obtain ⟨k,rfl⟩:∃ k:Nat,d=(k:Int):=⟨d.toNat,by omega⟩
 rw [Int.toNat_natCast]
 by_cases h3:l=[]
 ·subst h3
  exact ZDG (ZFF (S:=True) [] vs A k h1' (by omega) hF (fun _=>by unfold ZEm;simp) (.inr trivial)) (fun I w v h=>ZE7 trivial I w v (ZBR I w v h))
 ·exact ZFF (S:=False) l vs A k h1' (by omega) hF (fun h=>h.elim) (.inl h3)
end
section
open Go.RowKit
open C34
def SuV (f g:Vx->Int) (v:Vx):Prop:=∃ a j:Nat,f v=(a:Int)/\g v=((2 ^ j:Nat):Int)/\a<256/\j<8/\a.testBit j=true
def rbV (g:Vx->Int) (k:Nat) (s:List Vx):Bool:=decide (orL g s=((2 ^ k:Nat):Int)-1)
theorem ZRR {f:Vx->Int}:∀ (t:List Vx) (m0:Nat),m0<256->(∀ v∈t,∃ a:Nat,f v=(a:Int)/\a<256)->∃ m:Nat,m<256/\t.foldl (fun m v=>ior m (f v)) (m0:Int)=(m:Int)/\∀ i,m.testBit i=true↔m0.testBit i=true\/∃ v∈t,(f v).toNat.testBit i=true
 | [],m0,h,_=>⟨m0,h,rfl,fun i=>by simp⟩
 | v::t,m0,h,hf=>by
  obtain ⟨a,ha,ha8⟩:=hf v (List.mem_cons_self ..)
  have hor:m0 ||| a<256:=Nat.or_lt_two_pow (n:=8) h ha8
  obtain ⟨m,h1,h2,h3⟩:=ZRR t (m0 ||| a) hor fun u hu=>hf u (List.mem_cons_of_mem _ hu)
  refine ⟨m,h1,?_,fun i=>?_⟩
  ·rw [List.foldl_cons,ha,ZGI (by omega) (by omega)];exact h2
  ·rw [h3,Nat.testBit_or,Bool.or_eq_true]
   have hv:(f v).toNat=a:=by rw [ha];rfl
   simp only [List.mem_cons,exists_eq_or_imp,hv]
   exact or_assoc
theorem ZN6 {f:Vx->Int} {t:List Vx} (hf:∀ v∈t,∃ a:Nat,f v=(a:Int)/\a<256):∃ m:Nat,m<256/\orL f t=(m:Int)/\∀ i,m.testBit i=true↔∃ v∈t,(f v).toNat.testBit i=true:=by
 obtain ⟨m,h1,h2,h3⟩:=ZRR t 0 (by decide) hf
 exact ⟨m,h1,h2,fun i=>by rw [h3];simp⟩
theorem ZJS (k:Nat):1≤2 ^ k:=Nat.pow_pos (by decide)
theorem ZIO (k:Nat):((2 ^ k:Nat):Int)-1=((2 ^ k-1:Nat):Int):=by
 have:=ZJS k
 omega
theorem ZM3 {j:Nat} (h:j<8):2 ^ j<256:=Nat.lt_of_lt_of_le (Nat.pow_lt_pow_right (by decide) h) (by decide)
theorem ZXM {f g:Vx->Int} {t:List Vx} {k:Nat} (hk:k≤8) (hs:∀ v∈t,SuV f g v) (hr:rbV g k t=true):ZGc f (((2 ^ k:Nat):Int)-1) t=true:=by
 obtain ⟨m,m1,m2,m3⟩:=ZN6 (f:=f) (t:=t) fun v hv=>by obtain ⟨a,j,h1,_,h3,_⟩:=hs v hv;exact ⟨a,h1,h3⟩
 obtain ⟨n,n1,n2,n3⟩:=ZN6 (f:=g) (t:=t) fun v hv=>by obtain ⟨a,j,_,h2,_,h4,_⟩:=hs v hv;exact ⟨2 ^ j,h2,ZM3 h4⟩
 unfold rbV at hr
 have hr:=of_decide_eq_true hr
 rw [n2,ZIO] at hr
 have hn:n=2 ^ k-1:=by omega
 unfold ZGc
 have h256:2 ^ k≤256:=(Nat.pow_le_pow_right (n:=2) (by decide) hk:2 ^ k≤2 ^ 8)
 rw [m2,ZIO,ZIH (by omega) (by omega)]
 refine decide_eq_true (congrArg (fun x:Nat=>(x:Int)) (Nat.eq_of_testBit_eq fun i=>?_))
 rw [Nat.testBit_and,Nat.testBit_two_pow_sub_one]
 by_cases hi:i<k
 ·rw [decide_eq_true hi,Bool.and_true]
  have h1:n.testBit i=true:=by rw [hn,Nat.testBit_two_pow_sub_one];exact decide_eq_true hi
  obtain ⟨v,hv,hb⟩:=(n3 i).1 h1
  obtain ⟨a,j,q1,q2,_,_,q5⟩:=hs v hv
  rw [q2,Int.toNat_natCast,Nat.testBit_two_pow] at hb
  have hij:j=i:=of_decide_eq_true hb
  exact (m3 i).2 ⟨v,hv,by rw [q1,Int.toNat_natCast,<- hij];exact q5⟩
 ·rw [decide_eq_false hi,Bool.and_false]
theorem ZN8 {f g:Vx->Int} {v:Vx} {k:Nat} {s:List Vx} (hk:k≤8) (hp:ZAn f (k:Int) s=true) (hv:v∈s) (hs:SuV f g v):∃ j:Nat,j≤k/\g v=((2 ^ j:Nat):Int):=by
 obtain ⟨a,j,h1,h2,h3,h4,h5⟩:=hs
 refine ⟨j,Nat.le_of_not_lt fun hj=>?_,h2⟩
 unfold ZAn at hp
 have ho:ZGw f (k:Int) v=false:=by
  have:=List.any_eq_false.1 (by simpa using hp:s.any (ZGw f (k:Int))=false) v hv
  simpa using this
 unfold ZGw at ho
 rw [h1,ZCs,Nat.min_eq_left (by omega)] at ho
 have hz:a >>> (k+1)=0:=by
  have:(((a >>> (k+1):Nat):Int))=0:=by simpa using ho
  omega
 have h6:(a >>> (k+1)).testBit (j-(k+1))=true:=by
  rw [Nat.testBit_shiftRight,show k+1+(j-(k+1))=j by omega];exact h5
 rw [hz,Nat.zero_testBit] at h6
 cases h6
theorem ZO3 {x y:Int} (hx:x=1\/x=2) (hy:y=1\/y=2):((if ior 0 x=1 then 1 else 0)+(if ior 0 y=1 then 1 else 0)) % 2=if ior (ior 0 x) y=3 then 1 else 0:=by
 rcases hx with rfl|rfl <;> rcases hy with rfl|rfl <;> decide +kernel
theorem ZO4 {x y z:Int} (hx:ZSj x) (hy:ZSj y) (hz:ZSj z) :
  ((if ior (ior 0 x) y=3 then 1 else 0)+((if ior (ior 0 x) z=3 then 1 else 0)+(if ior (ior 0 y) z=3 then 1 else 0))) % 2=if ior (ior (ior 0 x) y) z=7 then 1 else 0:=by
 rcases hx with rfl|rfl|rfl <;> rcases hy with rfl|rfl|rfl <;> rcases hz with rfl|rfl|rfl <;> decide +kernel
theorem cnt2 (p:List Vx->Bool) (x y:List Vx):([x,y].filter p).length=(if p x=true then 1 else 0)+(if p y=true then 1 else 0):=by
 simp only [List.filter_cons,List.filter_nil]
 cases p x <;> cases p y <;> rfl
theorem cnt3 (p:List Vx->Bool) (x y z:List Vx):([x,y,z].filter p).length=(if p x=true then 1 else 0)+((if p y=true then 1 else 0)+(if p z=true then 1 else 0)):=by
 simp only [List.filter_cons,List.filter_nil]
 cases p x <;> cases p y <;> cases p z <;> rfl
theorem ZXN {g:Vx->Int} {k:Nat} {s:List Vx} (h1:1≤k) (h2:k≤2) (hl:s.length=k+1) (hg:∀ v∈s,∃ j:Nat,j≤k/\g v=((2 ^ j:Nat):Int)):((Za k s).filter (rbV g k)).length % 2=if rbV g (k+1) s=true then 1 else 0:=by
 have hor:k=1\/k=2:=by omega
 rcases hor with rfl|rfl
 ·obtain ⟨a,b,rfl⟩:∃ a b,s=[a,b]:=by
   match s,hl with
   | [a,b],_=>exact ⟨a,b,rfl⟩
  have lb:∀ v∈[a,b],g v=1\/g v=2:=fun v hv=>by
   obtain ⟨j,hj,e⟩:=hg v hv
   have hor:j=0\/j=1:=by omega
   rcases hor with rfl|rfl
   ·exact .inl e
   ·exact .inr e
  have h:=ZO3 (lb a (by simp)) (lb b (by simp))
  have e:Za 1 [a,b]=[[a],[b]]:=rfl
  rw [e,cnt2]
  simp only [rbV,decide_eq_true_eq]
  exact h
 ·obtain ⟨a,b,c,rfl⟩:∃ a b c,s=[a,b,c]:=by
   match s,hl with
   | [a,b,c],_=>exact ⟨a,b,c,rfl⟩
  have lb:∀ v∈[a,b,c],ZSj (g v):=fun v hv=>by
   obtain ⟨j,hj,e⟩:=hg v hv
   have hor:j=0\/j=1\/j=2:=by omega
   rcases hor with rfl|rfl|rfl
   ·exact .inl e
   ·exact .inr (.inl e)
   ·exact .inr (.inr e)
  have h:=ZO4 (lb a (by simp)) (lb b (by simp)) (lb c (by simp))
  have e:Za 2 [a,b,c]=[[a,b],[a,c],[b,c]]:=rfl
  rw [e,cnt3]
  simp only [rbV,decide_eq_true_eq]
  exact h
theorem ZNx {α:Type} {A B:List α} (hA:A.Nodup) (hB:B.Nodup) (h:∀ x,x∈A↔x∈B):A.length=B.length :=
 Nat.le_antisymm (List.Nodup.length_le_of_subset hA fun x hx=>(h x).1 hx) (List.Nodup.length_le_of_subset hB fun x hx=>(h x).2 hx)
theorem ZUl {k:Nat} {lv:Cx} {t:List Vx}:ZPA (Za k) lv t=decide ((lv.filter fun s=>decide (t∈Za k s)).length % 2=1):=by
 unfold ZPA
 have h0:∀ A B:Nat,A=B->(A % 2=1↔B % 2=1):=fun A B e=>by rw [e]
 exact decide_eq_decide.2 (h0 _ _ (congrArg List.length (List.filter_congr fun s _=>decide_eq_decide.2 Iff.rfl)))
theorem ZUj {prev:Cx} {t:List Vx}:ZRJ prev t=decide (t∈prev):=by
 unfold ZRJ
 exact decide_eq_decide.2 Iff.rfl
def InLv (l:Cx) (k:Nat) (s:List Vx):Prop:=Z5 s=0/\s.length=k+1/\ZA8 l s=true
theorem InLv.su {l:Cx} {f g:Vx->Int} {k:Nat} {s:List Vx} (h:InLv l k s) (hs:∀ s∈l,∀ v∈s,SuV f g v):∀ v∈s,SuV f g v:=fun v hv=>by
 obtain ⟨x,hx,hi⟩:=ZFM.1 h.2.2
 exact hs x hx v (ZJM.1 hi v hv)
theorem ZVj {l:Cx} {f g:Vx->Int} {lv prev:Cx} {k:Nat} (h1:1≤k) (h2:k≤2) (he:(ZBj l).2=0) (hlv:∀ s∈lv,InLv l k s) (hn:prev.Nodup) (hprev:∀ s∈prev,InLv l (k-1) s) (hok:ZHN l f k prev lv=true) (hs:∀ s∈l,∀ v∈s,SuV f g v) :
  (lv.filter (rbV g (k+1))).length % 2=(prev.filter (rbV g k)).length % 2:=by
 have hck:∀ s∈l,Asc s:=fun s hm=>(Ze.1 ((ZAA.1 (ZA4 he).1).2.2.1 s hm)).2.2.2
 unfold ZHN at hok
 rw [Bool.and_eq_true,decide_eq_false (by omega:¬ k=0),Bool.false_or,ZCM he h1 (by omega)] at hok
 obtain ⟨hp,hq⟩:=hok
 have hL:∀ s∈lv,(((ZAt l k).filter (rbV g k)).filter fun t=>decide (t∈Za k s)).length % 2=if rbV g (k+1) s=true then 1 else 0:=fun s hm=>by
  obtain ⟨c1,c2,c3⟩:=hlv s hm
  have hsa:Asc s:=(Ze.1 c1).2.2.2
  rw [<- ZXN (s:=s) h1 h2 c2 fun v hv=>ZN8 (by omega) (List.all_eq_true.1 hp s hm) hv ((hlv s hm).su hs v hv)]
  congr 1
  refine ZNx (((ZCD l k).nodup.filter _).filter _) ((ZG2 hsa k).filter _) fun t=>?_
  rw [List.mem_filter,List.mem_filter,List.mem_filter,ZHu hck,decide_eq_true_eq]
  constructor
  ·rintro ⟨⟨_,q⟩,r⟩;exact ⟨r,q⟩
  ·rintro ⟨r,q⟩
   obtain ⟨r1,r2⟩:=(ZAo _ _ _).1 r
   have hta:Asc t:=hsa.sublist r1
   obtain ⟨x,hx,hi⟩:=ZFM.1 c3
   exact ⟨⟨⟨hta,r2,ZFM.2 ⟨x,hx,ZLj ((ZCa hta hsa).1 r1) hi⟩⟩,q⟩,r⟩
 have hR:∀ t∈(ZAt l k).filter (rbV g k),(lv.filter fun s=>decide (t∈Za k s)).length % 2=if ZRJ prev t=true then 1 else 0:=fun t ht=>by
  obtain ⟨ht,hr⟩:=List.mem_filter.1 ht
  obtain ⟨_,_,t3⟩:=(ZHu hck).1 ht
  have hsu:∀ v∈t,SuV f g v:=fun v hv=>by
   obtain ⟨x,hx,hi⟩:=ZFM.1 t3
   exact hs x hx v (ZJM.1 hi v hv)
  have hc:=ZXM (by omega) hsu hr
  have h:=List.all_eq_true.1 hq t (List.mem_filter.2 ⟨ht,hc⟩)
  rw [beq_iff_eq] at h
  rw [<- h,ZUl]
  simp only [decide_eq_true_eq]
  split <;> omega
 have s1:=ZSK hL
 have s2:=ZSK hR
 have s3:=dblC (fun s t=>decide (t∈Za k s)) lv ((ZAt l k).filter (rbV g k))
 rw [<- s1,s3,s2]
 congr 1
 refine ZNx (((ZCD l k).nodup.filter _).filter _) (hn.filter _) fun t=>?_
 rw [List.mem_filter,List.mem_filter,List.mem_filter,ZHu hck,ZUj,decide_eq_true_eq]
 constructor
 ·rintro ⟨⟨_,q⟩,r⟩;exact ⟨r,q⟩
 ·rintro ⟨r,q⟩
  obtain ⟨r1,r2,r3⟩:=hprev t r
  exact ⟨⟨⟨(Ze.1 r1).2.2.2,by omega,r3⟩,q⟩,r⟩
theorem ZWK {l:Cx} {f:Vx->Int} {L:List Cx} (h:ZMa l f 0 [] L=true):∀ k (hk:k<L.length),ZHN l f k (ZCt L k) L[k]=true:=by
 have go:∀ k,k≤L.length->ZMa l f k (ZCt L k) (L.drop k)=true:=fun k=>by
  induction k with
  | zero=>intro _;exact h
  | succ k ih =>
   intro hk
   have:=ih (by omega)
   rw [ZGb (by omega),Bool.and_eq_true] at this
   exact this.2
 intro k hk
 have:=go k (by omega)
 rw [ZGb hk,Bool.and_eq_true] at this
 exact this.1
theorem ZTN {l:Cx} {f g:Vx->Int} {L:List Cx} (he:(ZBj l).2=0) (hf:ZFi l L=0) (hv:ZPb l f L=0) (h3:L.length≤3) (hn:∀ k (h:k<L.length),L[k].Nodup) (hs:∀ s∈l,∀ v∈s,SuV f g v):∀ k (hk:k<L.length),(L[k].filter (rbV g (k+1))).length % 2=1:=by
 obtain ⟨f1,f8,fo⟩:=ZEy hf
 unfold ZPb at hv
 have hK:ZMa l f 0 [] L=true:=by
  cases e:ZMa l f 0 [] L with
  | true=>rfl
  | false=>rw [if_pos e] at hv;cases hv
 rw [if_neg (by rw [hK];exact Bool.noConfusion)] at hv
 have hodd:¬ ((L.getD 0 []).length:Int).tmod 2=0:=fun e=>by rw [if_pos e] at hv;cases hv
 have hat:=ZWK hK
 intro k
 induction k with
 | zero =>
  intro hk
  have hl:=hat 0 hk
  unfold ZHN at hl
  rw [Bool.and_eq_true] at hl
  have hall:∀ s∈L[0],rbV g (0+1) s=true:=fun s hm=>by
   have hi:InLv l 0 s:=fo 0 hk s hm
   obtain ⟨a,rfl⟩:∃ a,s=[a]:=List.length_eq_one_iff.1 hi.2.1
   obtain ⟨j,hj,e⟩:=ZN8 (by omega) (List.all_eq_true.1 hl.1 [a] hm) (List.mem_singleton.2 rfl) (hi.su hs a (List.mem_singleton.2 rfl))
   obtain rfl:j=0:=by omega
   unfold rbV orL
   rw [List.foldl_cons,List.foldl_nil,e]
   decide +kernel
  rw [List.filter_eq_self.2 hall]
  have e0:L.getD 0 []=L[0]:=by rw [List.getD_eq_getElem?_getD,List.getElem?_eq_getElem hk];rfl
  rw [e0,Int.tmod_eq_emod_of_nonneg (by omega)] at hodd
  omega
 | succ k ih =>
  intro hk
  have ih:=ih (by omega)
  have hl:=hat (k+1) hk
  rw [ZCx (by omega)] at hl
  rw [ZVj (by omega) (by omega) he (fo (k+1) hk) (hn k (by omega)) (fo k (by omega)) hl hs]
  exact ih
end
end Go.Proofs.YtofkoleingbbpaaGreatDoor
