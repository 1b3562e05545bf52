/- Part 8: walks by contracts, and plain laws. -/
import Derived.Test.YtekiljakcngcoaaGreatDoorV7
set_option linter.unusedVariables false
set_option linter.unusedSimpArgs false
set_option linter.unusedSectionVars false
set_option maxRecDepth 100000
set_option maxHeartbeats 4000000
namespace Go.Proofs.YtekiljakcngcoaaGreatDoor
section
open Go.RowKit
def ZAn (P:Program) (f:FuncId):Prop:=∀ (args:Array Value) (w:World),(callFunc f args).run P w = .ok (.enter f args) w
def ZMm (P:Program) {α:Type} (A:α->List Dat) (r:α->Dat):Dat where
 rd:=fun I w v=>∃ f cap,v = .func (.func f) #[] cap/\ZAn P f/\∀ w',(∀ k,I k->k<w.heap.size->w'.heap[k]?=w.heap[k]?)->∀ (x:α) (I':Nat->Prop) (vs:List Value),vs.length=(A x).length->(∀ (i:Nat) (d:Dat),(A x)[i]?=some d->d.rd I' w' (vs.getD i undef)) ->
  Calls P f (vs.toArray++cap) w' fun e w''=>∃ u,e = .returned u/\Ext w' w''/\(r x).rd (fun b=>I' b\/w'.heap.size≤b) w'' u
 weak:=fun ⟨f,cap,h1,h0,h2⟩ q=>⟨f,cap,h1,h0,fun w' hw'=>h2 w' fun k hk=>hw' k (q k hk)⟩
 move:=fun {P w w2 v} ⟨f,cap,h1,h0,h2⟩ q=>⟨f,cap,h1,h0,fun w' hw'=>h2 w' fun k hk hlt=>by
  have h3:=q k hk hlt
  have hlt2:k<w2.heap.size:=by
   have:(w2.heap[k]?).isSome=true:=by rw [h3];simp [hlt]
   exact (Array.getElem?_eq_some_iff.1 (Option.isSome_iff_exists.1 this).choose_spec).1
  exact (hw' k hk hlt2).trans h3⟩
 bound:=fun ⟨f,cap,h1,h0,h2⟩=>⟨f,cap,h1,h0,fun w' hw'=>h2 w' fun k hk hlt=>hw' k ⟨hk,hlt⟩ hlt⟩
section
variable {P:Program} {ops:Array Oper} {hp:List HObj} {o:Oper} {fr:List Dat} {d:Dat} {dst:Option Tmp} {ty:TypeId} {ps:String} {af:Array Edge} {g:Option (Nat × Bool)}
theorem ZGY {f:FuncId} {α:Type} {A:α->List Dat} {r:α->Dat} (he:ZAn P f) (h:∀ x,Fn P f (A x) (r x)):(dX (.func (.func f) #[] #[])).le (ZMm P A r):=fun I w v hv=>by
 cases (hv:_=_)
 refine ⟨f,#[],rfl,he,fun w' _ x I' vs hl hr=>?_⟩
 have:=(h x).out I' w' vs hl hr
 simpa using this
theorem ZBd {t:Tmp} {args:Array Operand} {ats:Array TypeId} {α:Type} {A:α->List Dat} {r:α->Dat} {x:α} (ht:OpD fr (.tmp t) (ZMm P A r)) (ha:ArgsD fr args.toList (A x)) :
  SY P ops hp ⟨dst,.call { callee:=.value (.tmp t),args:=args,argTypes:=ats },ty,ps,af,g⟩ fr (r x):=SY.mk fun {P0 B w0 w a} hh ho K Q hk=>by
 obtain ⟨f,cap,h1,h0,h2⟩:=ht.get (by simp [Op.operands,Call.operands]) ho
 have h3:=h2 w (fun _ _ _=>rfl) x (Imm P0 B hp) (args.toList.map a.eval) (by simpa using ha.1) fun i d hd=>by
  have hi:i<args.toList.length:=by rw [ha.1];exact (List.getElem?_eq_some_iff.1 hd).1
  have h2:=ha.2 i _ d (List.getElem?_eq_getElem hi) hd
  have:=h2.get (by simp only [Op.operands,Call.operands];simp) ho
  have hi':i<args.size:=by simpa using hi
  simpa [List.getD,hi'] using this
 have he:(args.toList.map a.eval).toArray=args.map a.eval:=by apply Array.ext';simp
 rw [he] at h3
 unfold Oper.wp
 have h4:=h0 (args.map a.eval++cap) w
 have:(execOp a.eval ⟨dst,.call { callee:=.value (.tmp t),args:=args,argTypes:=ats },ty,ps,af,g⟩).run P w = .ok (.enter f (args.map a.eval++cap)) w:=by
  unfold execOp
  simp only [resolve]
  simp [h1,Deferred.ofValue,invoke,h4]
 rw [this]
 exact h3.mono fun e w' ⟨v,he,e1,hd⟩=>by subst he;exact hk v w' e1 ((r x).weak hd fun k hk=>hk.elim id hh.fresh)
theorem ZE0 {f:FuncId} {caps:Array Operand} {cs:List Dat} {α:Type} {A:α->List Dat} {r:α->Dat} (he:ZAn P f) (h:∀ x,Fn P f (A x++cs) (r x)) (hr:∀ x,(r x).Bare) (ha:ArgsD fr caps.toList cs) :
  SY P ops hp ⟨dst,.makeFunc (.func f) #[] caps,ty,ps,af,g⟩ fr (ZMm P A r):=SY.val fun {I w a} ho=>by
 refine ⟨.func (.func f) #[] (caps.map a.eval),by unfold execOp;simp [Instr.makeFunc],f,_,rfl,he,fun w' hw' x I' vs hl hv=>?_⟩
 have hcap:∀ (i:Nat) (d:Dat),cs[i]?=some d->d.rd I w' ((caps.toList.map a.eval).getD i undef):=fun i d hd=>by
  have hi:i<caps.toList.length:=by rw [ha.1];exact (List.getElem?_eq_some_iff.1 hd).1
  have h2:=ha.2 i _ d (List.getElem?_eq_getElem hi) hd
  have:=h2.get (by simp only [Op.operands];simp) ho
  have hi':i<caps.size:=by simpa using hi
  have:=d.move this hw'
  simpa [List.getD,hi'] using this
 have:=(h x).out (fun b=>I' b\/I b) w' (vs++caps.toList.map a.eval) (by have:=ha.1;simp at this;simp [hl,this]) fun i d hd=>by
  by_cases hi:i<(A x).length
  ·rw [List.getElem?_append_left hi] at hd
   have:=hv i d hd
   have hi2:i<vs.length:=by omega
   rw [List.getD_eq_getElem?_getD,List.getElem?_append_left hi2,<- List.getD_eq_getElem?_getD]
   exact d.weak this fun _=>.inl
  ·rw [List.getElem?_append_right (by omega)] at hd
   have:=hcap _ d hd
   rw [List.getD_eq_getElem?_getD,List.getElem?_append_right (by omega),<- List.getD_eq_getElem?_getD,hl]
   exact d.weak this fun _=>.inr
 have he:(vs++caps.toList.map a.eval).toArray=vs.toArray++caps.map a.eval:=by apply Array.ext';simp
 rw [he] at this
 exact this.mono fun e w'' ⟨u,h1,h2,h3⟩=>⟨u,h1,h2,hr x _ _ _ _ _ h3⟩
theorem ZPf {α:Type} {A:α->List Dat} {r:α->Dat}:(ZMm P A r).Shape 1 false:=ZCh fun _ _ _ h=>by obtain ⟨f,c,rfl,_⟩:=h;rfl
end
end
section
open Go.RowKit

def ZIk {α:Type} (p:α->Bool):Nat->List α->Int
 | _,[]=>-1
 | k,x::l=>if p x=true then (k:Int) else ZIk p (k+1) l
theorem ZEc {α:Type} {p:α->Bool} {l:List α} {k:Nat} (h:k<l.length):ZIk p k (l.drop k)=if p l[k]=true then (k:Int) else ZIk p (k+1) (l.drop (k+1)):=by
 rw [List.drop_eq_getElem_cons h];rfl
theorem ZH9 {α:Type} {p:α->Bool}:∀ (l:List α) (k:Nat),decide (0≤ZIk p k l)=l.any p
 | [],k=>by simp [ZIk]
 | x::l,k=>by
  unfold ZIk
  rw [List.any_cons]
  split
  ·rename_i h;rw [h];simp
  ·rename_i h;rw [ZH9 l];simp [h]
theorem idx_p (l:List Vx) (v:Vx):Fn Tryz.prog 74 [dS ZI l,dS RV v] (dI (ZIk (fun y=>decide (v=y)) 0 l)):=by
 (refine ZH Tryz.func74 rfl rfl ?_;simp only [Tryz.ntmps74,List.length_cons,List.length_nil,Nat.reduceAdd,Nat.reduceSub,List.replicate_succ,List.replicate_zero,List.cons_append,List.nil_append])
 (repeat' (first|((first|apply WL.opN|apply WD.opN);exact yF;dsimp only [ZA,z0,z1])|refine WL.nil ?_|refine ZC fun Kx hK=>?_|(refine hK _ _ ?_;clear hK)|refine WC.region ?_|((first|apply WL.opN|apply WD.opN);(focus ((first|exact ZBq|exact ZG4|fail);all_goals infer_instance));dsimp only [ZA,z0,z1])|refine WC.block ?_))
 (first|refine Ze (t:=0) rfl ZFf fun hl0=>?_|refine Ze (t:=0) rfl ZFe fun hl0=>?_);simp only [maxLen] at hl0
 (refine WC.loopU (X:=Nat) (fun k=>[(8,dI (k:Int)),(4,dA),(5,dA),(9,dA),(10,dA),(11,dA),(12,dA),(13,dA),(14,dA),(15,dA),(16,dA),(17,dA),(18,dA)]) (fun k=>[]) (fun k=>l.length-k) (fun k=>k≤l.length/\ZIk (fun y=>decide (v=y)) 0 l=ZIk (fun y=>decide (v=y)) k (l.drop k)) 0 ?start ?frame0 ?objs0 ?round)
 case start=>exact ⟨Nat.zero_le _,rfl⟩
 case frame0=>((try dsimp only [Za,z0,z1]);repeat (first|exact LeF.nil|refine ZF (k:=?_)))
 case objs0=>rfl
 case round =>
  rintro k ⟨h1,h2⟩
  dsimp only [Za,z0,z1]
  ((repeat' (first|((first|apply WL.opN|apply WD.opN);exact yF;dsimp only [ZA,z0,z1])|refine WL.nil ?_|refine WD.nil ?_|refine ZC fun Kx hK=>?_|(refine hK _ _ ?_;clear hK)|(refine Kont.skip ?_;clear hK)|refine WC.region ?_|(apply WC.draw;kernel_rfl;kernel_rfl)|((first|apply WL.opN|apply WD.opN);(focus ((first|exact ZBy|exact ZNA|exact ZCk|exact Zg|fail);all_goals infer_instance));dsimp only [ZA,z0,z1])|(apply ZE;(exact oD);all_goals (intro h;try exact xD))|refine WC.skip ?_|refine WC.ret ?_|refine WC.exit ?_|refine WC.block ?_|refine ThenD.n ?_|refine ThenD.r ?_|refine InBlockD.r ?_));all_goals (first|((repeat clear hK);(repeat clear Kx))))
  ·(refine ⟨trivial,_,rfl,?_⟩;refine FinD.i ?_)
   rw [h2,ZEc (by omega),if_pos (by simpa using h)]
  ·(refine ⟨k+1,?_,by first|omega|(simp only;omega),rfl,?_⟩;rotate_left;((try dsimp only [Za,z0,z1]);repeat (first|exact LeF.nil|refine ZF (k:=?_)));(try dsimp only))
   exact ⟨by omega,by rw [h2,ZEc (by omega),if_neg (by simpa using h)]⟩
  ·(refine ⟨trivial,_,rfl,?_⟩;refine FinD.i ?_)
   rw [h2,List.drop_of_length_le (by omega)];rfl
end
section
open Go.RowKit

theorem ZKf:∀ (s:List Vx),s.length≤1->ZAi s=true
 | [],_=>rfl
 | [_],_=>rfl
 | _::_::_,h=>by simp at h
theorem ZOH (s:List Vx):Fn Tryz.prog 51 [dS ZI s] (dT [dB (ZEU s).1,dI (ZEU s).2]):=by
 (refine ZAl Tryz.func51 rfl rfl ?_;simp only [Tryz.ntmps51,List.length_cons,List.length_nil,Nat.reduceAdd,Nat.reduceSub,List.replicate_succ,List.replicate_zero,List.cons_append,List.nil_append])
 ((repeat' (first|((first|apply WL.opN|apply WD.opN);exact yF;dsimp only [ZA,z0,z1])|refine WL.nil ?_|refine ZC fun Kx hK=>?_|(refine hK _ _ ?_;clear hK)|refine WC.region ?_|((first|apply WL.opN|apply WD.opN);(focus ((first|(apply SY.call (ZJJ _) Tryz.call63;(exact aD))|exact ZFc|fail);all_goals infer_instance));dsimp only [ZA,z0,z1])|(apply WC.condN;(exact oD);all_goals (intro h;try exact xD))|refine WC.skip ?_|refine WC.ret ?_|refine WC.block ?_|refine ThenD.r ?_));all_goals (first|refine WC.id ?_|((repeat clear hK);(repeat clear Kx))))
 ·(refine ⟨trivial,⟨_,rfl,?_⟩,_,rfl,?_⟩ <;> (first|refine FinD.i ?_|refine FinD.b ?_)) <;> ((unfold ZEU;(repeat' split)) <;> (first|rfl|(exfalso;first|contradiction|omega)|(simp_all;done)))
 ·have h0:Z3 s=0:=by assumption
  (first|refine Ze (t:=0) rfl ZFf fun hl0=>?_|refine Ze (t:=0) rfl ZFe fun hl0=>?_);simp only [maxLen] at hl0
  (refine WC.loopU (X:=Nat) (fun k=>[(5,dI (k:Int)),(2,dA),(3,dA),(11,dA),(12,dA),(13,dA),(14,dA),(15,dA),(16,dA),(17,dA),(18,dA),(19,dA),(20,dA),(21,dA),(22,dA),(23,dA),(24,dA),(25,dA),(26,dA),(27,dA),(28,dA)]) (fun k=>[]) (fun k=>s.length-k) (fun k=>1≤k/\ZAi s=ZAi (s.drop (k-1))) 1 ?start ?frame0 ?objs0 ?round)
  case start=>exact ⟨Nat.le_refl _,rfl⟩
  case frame0=>((try dsimp only [Za,z0,z1]);repeat (first|exact LeF.nil|refine ZF (k:=?_)))
  case objs0=>rfl
  case round =>
   rintro k ⟨h1,h2⟩
   dsimp only [Za,z0,z1]
   ((repeat' (first|((first|apply WL.opN|apply WD.opN);exact yF;dsimp only [ZA,z0,z1])|refine WL.nil ?_|refine WD.nil ?_|refine ZC fun Kx hK=>?_|(refine hK _ _ ?_;clear hK)|(refine Kont.skip ?_;clear hK)|refine WC.region ?_|(apply WC.draw;kernel_rfl;kernel_rfl)|((first|apply WL.opN|apply WD.opN);(focus ((first|(apply ZDw elV (OpD.t rfl) (OpD.t rfl) (k-1);omega;omega)|exact ZBy|exact ZNA|exact ZCk|exact ZNF|exact ZBq|exact Zg|exact Z8|fail);all_goals infer_instance));dsimp only [ZA,z0,z1])|(apply ZE;(exact oD);all_goals (intro h;try exact xD))|refine WC.skip ?_|refine WC.ret ?_|refine WC.exit ?_|refine WC.block ?_|refine ThenD.n ?_|refine ThenD.r ?_|refine InBlockD.r ?_));all_goals (first|((repeat clear hK);(repeat clear Kx))))
   ·rw [ZHE h1 (by omega),if_pos h] at h2
    (refine ⟨trivial,⟨_,rfl,?_⟩,_,rfl,?_⟩ <;> (first|refine FinD.i ?_|refine FinD.b ?_)) <;> ((unfold ZEU;(repeat' split)) <;> (first|rfl|(exfalso;first|contradiction|omega)|(simp_all;done)))
   ·rw [ZHE h1 (by omega),if_neg h] at h2
    (refine ⟨k+1,?_,by first|omega|(simp only;omega),rfl,?_⟩;rotate_left;((try dsimp only [Za,z0,z1]);repeat (first|exact LeF.nil|refine ZF (k:=?_)));(try dsimp only))
    exact ⟨by omega,h2⟩
   ·rw [ZKf (s.drop (k-1)) (by rw [List.length_drop];omega)] at h2
    (refine ⟨trivial,⟨_,rfl,?_⟩,_,rfl,?_⟩ <;> (first|refine FinD.i ?_|refine FinD.b ?_)) <;> ((unfold ZEU;(repeat' split)) <;> (first|rfl|(exfalso;first|contradiction|omega)|(simp_all;done)))
end
section
open Go.RowKit

theorem ZST (x y:Vx):Fn Tryz.prog 43 [dS RV x,dS RV y] (dI (ZA8 x y)):=by
 (refine ZH Tryz.func43 rfl rfl ?_;simp only [Tryz.ntmps43,List.length_cons,List.length_nil,Nat.reduceAdd,Nat.reduceSub,List.replicate_succ,List.replicate_zero,List.cons_append,List.nil_append])
 ((repeat' (first|(apply WL.opN;exact yF;dsimp only [ZA,z0,z1])|refine WL.nil ?_|refine ZC fun Kx hK=>?_|(refine hK _ _ ?_;clear hK)|refine WC.region ?_|(apply WL.opN;(focus ((first|exact ZBy|exact ZIh|exact Z8|exact ZG4|fail);all_goals infer_instance));dsimp only [ZA,z0,z1])|(apply ZE;(exact oD);all_goals (intro h;try exact xD))|refine WC.skip ?_|refine WC.ret ?_|refine WC.block ?_|refine ThenD.r ?_|refine InBlockD.r ?_));all_goals (first|((repeat clear hK);(repeat clear Kx))))
 all_goals ((refine ⟨trivial,_,rfl,?_⟩;refine FinD.i ?_);unfold ZA8;simp [*])
theorem ZVR (x:Vx):Fn Tryz.prog 42 [dS RV x] (dB (ZEy x)):=by
 (refine ZH Tryz.func42 rfl rfl ?_;simp only [Tryz.ntmps42,List.length_cons,List.length_nil,Nat.reduceAdd,Nat.reduceSub,List.replicate_succ,List.replicate_zero,List.cons_append,List.nil_append])
 ((repeat' (first|(apply WL.opN;exact yF;dsimp only [ZA,z0,z1])|refine WL.nil ?_|refine ZC fun Kx hK=>?_|(refine hK _ _ ?_;clear hK)|refine WC.region ?_|(apply ZS;(focus (first|exact wN|(apply SYG.yes;(exact wY);((first|exact ZBy|exact ZVi|exact ZS0|exact ZFO|exact Z8|exact ZFP|exact ZG4|fail);all_goals infer_instance))));dsimp only [ZA,z0,z1])|((first|refine Zl rfl rfl rfl (fun h=>?_) (fun h=>?_)|refine Zk rfl rfl rfl (fun h=>?_) (fun h=>?_)|refine Zj rfl rfl rfl (fun h=>?_) (fun h=>?_)) <;> (first|(exfalso;first|omega|contradiction)|(dsimp only [z0,z1])))|refine WC.ret ?_));all_goals (first|((repeat clear hK);(repeat clear Kx))))
 all_goals ((refine ⟨trivial,_,rfl,?_⟩;refine FinD.b ?_);unfold ZEy;simp [*])
set_option maxHeartbeats 4000000 in
theorem ZSS (a b:List Vx):Fn Tryz.prog 15 [dS ZI a,dS ZI b] (dI (ZA7 a b)):=by
 (refine ZH Tryz.func15 rfl rfl ?_;simp only [Tryz.ntmps15,List.length_cons,List.length_nil,Nat.reduceAdd,Nat.reduceSub,List.replicate_succ,List.replicate_zero,List.cons_append,List.nil_append])
 (repeat' (first|((first|apply WL.opN|apply WD.opN);exact yF;dsimp only [ZA,z0,z1])|refine WL.nil ?_|refine ZC fun Kx hK=>?_|(refine hK _ _ ?_;clear hK)|refine WC.region ?_|refine WC.block ?_))
 (first|refine Ze (t:=0) rfl ZFf fun hl0=>?_|refine Ze (t:=0) rfl ZFe fun hl0=>?_);simp only [maxLen] at hl0
 (first|refine Ze (t:=1) rfl ZFf fun hl1=>?_|refine Ze (t:=1) rfl ZFe fun hl1=>?_);simp only [maxLen] at hl1
 (refine WC.loopU (X:=Nat) (fun k=>[(5,dI (k:Int)),(4,dA),(6,dA),(7,dA),(8,dA),(9,dA),(10,dA),(11,dA),(12,dA),(13,dA),(14,dA),(15,dA),(16,dA),(17,dA),(18,dA),(19,dA),(20,dA),(21,dA),(22,dA),(23,dA),(24,dA),(25,dA),(26,dA),(27,dA),(28,dA),(29,dA),(30,dA)]) (fun k=>[]) (fun k=>a.length-k) (fun k=>k≤a.length/\k≤b.length/\ZA7 a b=ZA7 (a.drop k) (b.drop k)) 0 ?start ?frame0 ?objs0 ?round)
 case start=>exact ⟨Nat.zero_le _,Nat.zero_le _,rfl⟩
 case frame0=>((try dsimp only [Za,z0,z1]);repeat (first|exact LeF.nil|refine ZF (k:=?_)))
 case objs0=>rfl
 case round =>
  rintro k ⟨h1,h2,h3⟩
  dsimp only [Za,z0,z1]
  ((repeat' (first|((first|apply WL.opN|apply WD.opN);exact yF;dsimp only [ZA,z0,z1])|refine WL.nil ?_|refine WD.nil ?_|refine ZC fun Kx hK=>?_|(refine hK _ _ ?_;clear hK)|(refine Kont.skip ?_;clear hK)|refine WC.region ?_|(apply WC.draw;kernel_rfl;kernel_rfl)|((first|apply ZS|apply WD.op);(focus (first|exact wN|(apply SYG.yes;(exact wY);((first|(apply SY.call (ZST _ _) Tryz.call43;(exact aD))|exact ZD6|exact ZBy|exact ZIh|exact ZFc|exact ZCk|exact ZBq|exact Zg|exact ZFP|fail);all_goals infer_instance))));dsimp only [ZA,z0,z1])|((first|refine Zl rfl rfl rfl (fun h=>?_) (fun h=>?_)|refine Zk rfl rfl rfl (fun h=>?_) (fun h=>?_)|refine Zj rfl rfl rfl (fun h=>?_) (fun h=>?_)|refine ZAS rfl rfl rfl (fun h=>?_) (fun h=>?_)|refine ZAR rfl rfl rfl (fun h=>?_) (fun h=>?_)|refine Z9 rfl rfl rfl (fun h=>?_) (fun h=>?_)) <;> (first|(exfalso;first|omega|contradiction)|(dsimp only [z0,z1])))|(apply ZK;(exact oD);(with_reducible rfl))|(apply ZE;(exact oD);all_goals (intro h;try exact xD))|(apply WC.condN;(exact oD);all_goals (intro h;try exact xD))|refine WC.skip ?_|refine WC.ret ?_|refine WC.exit ?_|refine WC.block ?_|refine ThenD.n ?_|refine ThenD.r ?_|refine InBlockD.r ?_));all_goals (first|((repeat clear hK);(repeat clear Kx))))
  all_goals first
   | ((refine ⟨k+1,?_,by first|omega|(simp only;omega),rfl,?_⟩;rotate_left;((try dsimp only [Za,z0,z1]);repeat (first|exact LeF.nil|refine ZF (k:=?_)));(try dsimp only));exact ⟨by omega,by omega,h3.trans (ZGH (by omega) (by omega) (by assumption))⟩)
   | ((refine ⟨trivial,_,rfl,?_⟩;refine FinD.i ?_);rw [h3,ZEV];repeat' split) <;> first|rfl|contradiction|omega
theorem ZSq (a b:List Vx):Fn Tryz.prog 23 [dS ZI a,dS ZI b] (dB (decide (ZA7 a b=0))):=by
 (refine ZH Tryz.func23 rfl rfl ?_;simp only [Tryz.ntmps23,List.length_cons,List.length_nil,Nat.reduceAdd,Nat.reduceSub,List.replicate_succ,List.replicate_zero,List.cons_append,List.nil_append])
 ((repeat' (first|(apply WL.opN;exact yF;dsimp only [ZA,z0,z1])|refine WL.nil ?_|refine ZC fun Kx hK=>?_|(refine hK _ _ ?_;clear hK)|refine WC.region ?_|(apply WL.opN;(focus ((first|(apply SY.call (ZSS _ _) Tryz.call15;(exact aD))|exact ZNA|fail);all_goals infer_instance));dsimp only [ZA,z0,z1])|refine WC.ret ?_));all_goals (first|((repeat clear hK);(repeat clear Kx))))
 all_goals (refine ⟨trivial,_,rfl,?_⟩;exact fD)
theorem has_c (s:List Vx) (v:Vx):Fn Tryz.prog 44 [dS ZI s,dS RV v] (dB (decide (v∈s))):=by
 (refine ZH Tryz.func44 rfl rfl ?_;simp only [Tryz.ntmps44,List.length_cons,List.length_nil,Nat.reduceAdd,Nat.reduceSub,List.replicate_succ,List.replicate_zero,List.cons_append,List.nil_append])
 (repeat' (first|((first|apply WL.opN|apply WD.opN);exact yF;dsimp only [ZA,z0,z1])|refine WL.nil ?_|refine ZC fun Kx hK=>?_|(refine hK _ _ ?_;clear hK)|refine WC.region ?_|((first|apply WL.opN|apply WD.opN);(focus ((first|exact ZG4|fail);all_goals infer_instance));dsimp only [ZA,z0,z1])|refine WC.block ?_))
 (first|refine Ze (t:=0) rfl ZFf fun hl0=>?_|refine Ze (t:=0) rfl ZFe fun hl0=>?_);simp only [maxLen] at hl0
 (refine WC.loopU (X:=Nat) (fun k=>[(5,dI (k:Int)),(4,dA),(6,dA),(7,dA),(8,dA),(9,dA),(10,dA),(11,dA),(12,dA),(13,dA),(14,dA),(15,dA),(16,dA),(17,dA)]) (fun k=>[]) (fun k=>s.length-k) (fun k=>k≤s.length/\v∉s.take k) 0 ?start ?frame0 ?objs0 ?round)
 case start=>simp
 case frame0=>((try dsimp only [Za,z0,z1]);repeat (first|exact LeF.nil|refine ZF (k:=?_)))
 case objs0=>rfl
 case round =>
  rintro k ⟨h1,h2⟩
  dsimp only [Za,z0,z1]
  ((repeat' (first|((first|apply WL.opN|apply WD.opN);exact yF;dsimp only [ZA,z0,z1])|refine WL.nil ?_|refine WD.nil ?_|refine ZC fun Kx hK=>?_|(refine hK _ _ ?_;clear hK)|(refine Kont.skip ?_;clear hK)|refine WC.region ?_|(apply WC.draw;kernel_rfl;kernel_rfl)|((first|apply WL.opN|apply WD.opN);(focus ((first|exact ZBy|exact ZNA|exact ZCk|exact ZBq|exact Zg|fail);all_goals infer_instance));dsimp only [ZA,z0,z1])|(apply ZE;(exact oD);all_goals (intro h;try exact xD))|refine WC.skip ?_|refine WC.ret ?_|refine WC.exit ?_|refine WC.block ?_|refine ThenD.n ?_|refine ThenD.r ?_|refine InBlockD.r ?_));all_goals (first|((repeat clear hK);(repeat clear Kx))))
  ·(refine ⟨trivial,_,rfl,?_⟩;refine FinD.b ?_)
   rename_i h
   rw [<- h];simp
  ·(refine ⟨k+1,?_,by first|omega|(simp only;omega),rfl,?_⟩;rotate_left;((try dsimp only [Za,z0,z1]);repeat (first|exact LeF.nil|refine ZF (k:=?_)));(try dsimp only))
   rename_i h
   exact ⟨by omega,fun hm=>by rcases (ZBW (by omega)).1 hm with h'|h';exact h2 h';exact h h'.symm⟩
  ·(refine ⟨trivial,_,rfl,?_⟩;refine FinD.b ?_)
   rw [List.take_of_length_le (by omega)] at h2
   simp [h2]
set_option maxHeartbeats 4000000 in
theorem chk_c (s:List Vx):Fn Tryz.prog 14 [dS ZI s] (dI (Z3 s)):=by
 (refine ZH Tryz.func14 rfl rfl ?_;simp only [Tryz.ntmps14,List.length_cons,List.length_nil,Nat.reduceAdd,Nat.reduceSub,List.replicate_succ,List.replicate_zero,List.cons_append,List.nil_append])
 ((repeat' (first|((first|apply WL.opN|apply WD.opN);exact yF;dsimp only [ZA,z0,z1])|refine WL.nil ?_|refine ZC fun Kx hK=>?_|(refine hK _ _ ?_;clear hK)|refine WC.region ?_|((first|apply ZS|apply WD.op);(focus (first|exact wN|(apply SYG.yes;(exact wY);((first|exact ZIh|exact ZNA|exact ZBq|fail);all_goals infer_instance))));dsimp only [ZA,z0,z1])|(apply ZE;(exact oD);all_goals (intro h;try exact xD))|refine WC.skip ?_|refine WC.ret ?_|refine WC.block ?_|refine ThenD.r ?_|refine InBlockD.r ?_));all_goals (first|refine WC.id ?_|((repeat clear hK);(repeat clear Kx))))
 ·(refine ⟨trivial,_,rfl,?_⟩;refine FinD.i ?_)
  unfold Z3;rw [if_pos (by omega)]
 ·(refine ⟨trivial,_,rfl,?_⟩;refine FinD.i ?_)
  unfold Z3;rw [if_neg (by omega),if_pos (by omega)]
 ·rename_i h1 h2
  have hs:Z3 s=ZNC none s:=by unfold Z3;rw [if_neg (by omega),if_neg (by omega)]
  (refine WC.loopU (X:=Nat) (fun k=>[(3,dI (k:Int)),(2,dA),(12,dA),(13,dA),(14,dA),(15,dA),(16,dA),(17,dA),(18,dA),(19,dA),(20,dA),(21,dA),(22,dA),(23,dA),(24,dA),(25,dA),(26,dA),(27,dA),(28,dA),(29,dA),(30,dA),(31,dA),(32,dA),(33,dA),(34,dA),(35,dA),(36,dA),(37,dA),(38,dA)]) (fun k=>[]) (fun k=>s.length-k) (fun k=>k≤s.length/\Z3 s=ZNC (s.take k).getLast? (s.drop k)) 0 ?start ?frame0 ?objs0 ?round)
  case start=>exact ⟨Nat.zero_le _,by rw [hs];rfl⟩
  case frame0=>((try dsimp only [Za,z0,z1]);repeat (first|exact LeF.nil|refine ZF (k:=?_)))
  case objs0=>rfl
  case round =>
   rintro k ⟨h3,h4⟩
   dsimp only [Za,z0,z1]
   ((repeat' (first|((first|apply WL.opN|apply WD.opN);exact yF;dsimp only [ZA,z0,z1])|refine WL.nil ?_|refine WD.nil ?_|refine ZC fun Kx hK=>?_|(refine hK _ _ ?_;clear hK)|(refine Kont.skip ?_;clear hK)|refine WC.region ?_|(apply WC.draw;kernel_rfl;kernel_rfl)|((first|apply ZS|apply WD.op);(focus (first|exact wN|(apply SYG.yes;(exact wY);((first|(apply SY.call (ZST _ _) Tryz.call43;(exact aD))|(apply SY.call (ZVR _) Tryz.call42;(exact aD))|(apply ZDw elV (OpD.t rfl) (OpD.t rfl) (k-1);omega;omega)|exact ZD6|exact ZBy|exact ZIh|exact ZS0|exact ZP5|exact ZCk|exact ZNF|exact ZFO|exact ZBq|exact Zg|exact ZFP|fail);all_goals infer_instance))));dsimp only [ZA,z0,z1])|((first|refine Zl rfl rfl rfl (fun h=>?_) (fun h=>?_)|refine Zk rfl rfl rfl (fun h=>?_) (fun h=>?_)|refine Zj rfl rfl rfl (fun h=>?_) (fun h=>?_)|refine ZAS rfl rfl rfl (fun h=>?_) (fun h=>?_)|refine ZAR rfl rfl rfl (fun h=>?_) (fun h=>?_)|refine Z9 rfl rfl rfl (fun h=>?_) (fun h=>?_)) <;> (first|(exfalso;first|omega|contradiction)|(dsimp only [z0,z1])))|(apply ZK;(exact oD);(with_reducible rfl))|(apply ZE;(exact oD);all_goals (intro h;try exact xD))|(apply WC.condNB;(exact oD);all_goals (intro h;try exact xD))|refine WC.skip ?_|refine WC.ret ?_|refine WC.exit ?_|refine WC.block ?_|refine ThenD.n ?_|refine ThenD.r ?_|refine InBlockD.r ?_));all_goals (first|((repeat clear hK);(repeat clear Kx))))
   all_goals try (rw [ZJH s k (by omega)] at h4)
   ·(refine ⟨trivial,_,rfl,?_⟩;refine FinD.i ?_)
    rw [h4,if_pos h]
   ·(refine ⟨trivial,_,rfl,?_⟩;refine FinD.i ?_)
    have h5:ZEy s[k]=true:=by assumption
    rw [h4,if_neg (by simp [h5]),ZEg _ _ (by omega) (by omega),if_pos (by simpa using h)]
   ·(refine ⟨k+1,?_,by first|omega|(simp only;omega),rfl,?_⟩;rotate_left;((try dsimp only [Za,z0,z1]);repeat (first|exact LeF.nil|refine ZF (k:=?_)));(try dsimp only))
    refine ⟨by omega,?_⟩
    have h5:ZEy s[k]=true:=by assumption
    rw [h4,if_neg (by simp [h5]),ZEg _ _ (by omega) (by omega),if_neg (by simpa using h)]
   ·(refine ⟨k+1,?_,by first|omega|(simp only;omega),rfl,?_⟩;rotate_left;((try dsimp only [Za,z0,z1]);repeat (first|exact LeF.nil|refine ZF (k:=?_)));(try dsimp only))
    refine ⟨by omega,?_⟩
    have h5:ZEy s[k]=true:=by assumption
    have h0:(s.take k).getLast?=none:=by
     have:k=0:=by omega
     rw [this];rfl
    rw [h4,if_neg (by simp [h5]),h0]
    rfl
   ·(refine ⟨trivial,_,rfl,?_⟩;refine FinD.i ?_)
    rw [h4,List.drop_of_length_le (by omega)]
    rfl
end
section
open Go.RowKit

theorem ZRS (a b:List Vx):Fn Tryz.prog 16 [dS ZI a,dS ZI b] (dB (ZA1 a b)):=by
 (refine ZH Tryz.func16 rfl rfl ?_;simp only [Tryz.ntmps16,List.length_cons,List.length_nil,Nat.reduceAdd,Nat.reduceSub,List.replicate_succ,List.replicate_zero,List.cons_append,List.nil_append])
 (repeat' (first|(apply WL.opN;exact yF;dsimp only [ZA,z0,z1])|refine WL.nil ?_|refine ZC fun Kx hK=>?_|(refine hK _ _ ?_;clear hK)|refine WC.region ?_|refine WC.block ?_))
 (first|refine Ze (t:=0) rfl ZFf fun hl0=>?_|refine Ze (t:=0) rfl ZFe fun hl0=>?_);simp only [maxLen] at hl0
 (refine WC.loopU (X:=Nat) (fun k=>[(5,dI (k:Int)),(4,dA),(6,dA),(7,dA),(8,dA),(9,dA),(10,dA),(11,dA),(12,dA),(13,dA),(14,dA),(15,dA),(16,dA),(17,dA),(18,dA)]) (fun k=>[]) (fun k=>a.length-k) (fun k=>k≤a.length/\(a.take k).all (fun x=>decide (x∈b))=true) 0 ?start ?frame0 ?objs0 ?round)
 case start=>simp
 case frame0=>((try dsimp only [Za,z0,z1]);repeat (first|exact LeF.nil|refine ZF (k:=?_)))
 case objs0=>rfl
 case round =>
  rintro k ⟨h1,h2⟩
  dsimp only [Za,z0,z1]
  ((repeat' (first|(apply WL.opN;exact yF;dsimp only [ZA,z0,z1])|refine WL.nil ?_|refine ZC fun Kx hK=>?_|(refine hK _ _ ?_;clear hK)|(refine Kont.skip ?_;clear hK)|refine WC.region ?_|(apply WL.opN;(focus ((first|(apply SY.call (has_c _ _) Tryz.call44;(exact aD))|exact ZBy|exact ZP5|exact ZCk|exact ZBq|exact Zg|fail);all_goals infer_instance));dsimp only [ZA,z0,z1])|(apply ZE;(exact oD);all_goals (intro h;try exact xD))|(apply WC.condN;(exact oD);all_goals (intro h;try exact xD))|refine WC.skip ?_|refine WC.ret ?_|refine WC.exit ?_|refine WC.block ?_|refine ThenD.n ?_|refine ThenD.r ?_|refine InBlockD.r ?_));all_goals (first|((repeat clear hK);(repeat clear Kx))))
  ·(refine ⟨trivial,_,rfl,?_⟩;refine FinD.b ?_)
   unfold ZA1
   symm
   rw [List.all_eq_false]
   exact ⟨a[k],List.getElem_mem _,by simpa using h⟩
  ·(refine ⟨k+1,?_,by first|omega|(simp only;omega),rfl,?_⟩;rotate_left;((try dsimp only [Za,z0,z1]);repeat (first|exact LeF.nil|refine ZF (k:=?_)));(try dsimp only))
   exact ⟨by omega,by rw [ZLR (by omega),h2];simpa using h⟩
  ·(refine ⟨trivial,_,rfl,?_⟩;refine FinD.b ?_)
   rw [List.take_of_length_le (by omega)] at h2
   exact h2.symm
set_option maxHeartbeats 4000000 in
theorem ZPe (l m:List (List Vx)):Fn Tryz.prog 24 [dS ZAe l,dS ZAe m] (dB (decide (l=m))):=by
 (refine ZH Tryz.func24 rfl rfl ?_;simp only [Tryz.ntmps24,List.length_cons,List.length_nil,Nat.reduceAdd,Nat.reduceSub,List.replicate_succ,List.replicate_zero,List.cons_append,List.nil_append])
 ((repeat' (first|((first|apply WL.opN|apply WD.opN);exact yF;dsimp only [ZA,z0,z1])|refine WL.nil ?_|refine ZC fun Kx hK=>?_|(refine hK _ _ ?_;clear hK)|refine WC.region ?_|((first|apply WL.opN|apply WD.opN);(focus ((first|exact ZFc|exact ZBq|fail);all_goals infer_instance));dsimp only [ZA,z0,z1])|(apply WC.condN;(exact oD);all_goals (intro h;try exact xD))|refine WC.skip ?_|refine WC.ret ?_|refine WC.block ?_|refine ThenD.r ?_));all_goals (first|refine WC.id ?_|((repeat clear hK);(repeat clear Kx))))
 ·(refine ⟨trivial,_,rfl,?_⟩;refine FinD.b ?_)
  have:l≠m:=fun e=>h (by rw [e])
  simp [this]
 ·have hl:l.length=m.length:=by omega
  (first|refine Ze (t:=0) rfl ZFf fun hl0=>?_|refine Ze (t:=0) rfl ZFe fun hl0=>?_);simp only [maxLen] at hl0
  (refine WC.loopU (X:=Nat) (fun k=>[(5,dI (k:Int)),(4,dA),(11,dA),(12,dA),(13,dA),(14,dA),(15,dA),(16,dA),(17,dA),(18,dA),(19,dA),(20,dA),(21,dA),(22,dA),(23,dA),(24,dA),(25,dA),(26,dA)]) (fun k=>[]) (fun k=>l.length-k) (fun k=>k≤l.length/\l.take k=m.take k) 0 ?start ?frame0 ?objs0 ?round)
  case start=>simp
  case frame0=>((try dsimp only [Za,z0,z1]);repeat (first|exact LeF.nil|refine ZF (k:=?_)))
  case objs0=>rfl
  case round =>
   rintro k ⟨h1,h2⟩
   dsimp only [Za,z0,z1]
   ((repeat' (first|((first|apply WL.opN|apply WD.opN);exact yF;dsimp only [ZA,z0,z1])|refine WL.nil ?_|refine WD.nil ?_|refine ZC fun Kx hK=>?_|(refine hK _ _ ?_;clear hK)|(refine Kont.skip ?_;clear hK)|refine WC.region ?_|(apply WC.draw;kernel_rfl;kernel_rfl)|((first|apply WL.opN|apply WD.opN);(focus ((first|(apply SY.call (ZSq _ _) Tryz.call23;(exact aD))|exact ZBy|exact ZP5|exact ZCk|exact ZBq|exact Zg|fail);all_goals infer_instance));dsimp only [ZA,z0,z1])|(apply ZE;(exact oD);all_goals (intro h;try exact xD))|(apply WC.condN;(exact oD);all_goals (intro h;try exact xD))|refine WC.skip ?_|refine WC.ret ?_|refine WC.exit ?_|refine WC.block ?_|refine ThenD.n ?_|refine ThenD.r ?_|refine InBlockD.r ?_));all_goals (first|((repeat clear hK);(repeat clear Kx))))
   ·(refine ⟨trivial,_,rfl,?_⟩;refine FinD.b ?_)
    have:l≠m:=fun e=>h (ZDy.2 (by simp [e]))
    simp [this]
   ·(refine ⟨k+1,?_,by first|omega|(simp only;omega),rfl,?_⟩;rotate_left;((try dsimp only [Za,z0,z1]);repeat (first|exact LeF.nil|refine ZF (k:=?_)));(try dsimp only))
    exact ⟨by omega,by rw [ZZ (by omega),ZZ (by omega),h2,ZDy.1 h]⟩
   ·(refine ⟨trivial,_,rfl,?_⟩;refine FinD.b ?_)
    rw [List.take_of_length_le (by omega),List.take_of_length_le (by omega)] at h2
    simp [h2]
end
section
open Go.RowKit

set_option maxHeartbeats 4000000 in
theorem ZOI (a b:List Vx):Fn Tryz.prog 87 [dS ZI a,dS ZI b,ZMm Tryz.prog (fun x:Vx × Vx=>[dS RV x.1,dS RV x.2]) (fun x=>dI (ZA8 x.1 x.2))] (dI (ZA7 a b)):=by
 (refine ZH Tryz.func87 rfl rfl ?_;simp only [Tryz.ntmps87,List.length_cons,List.length_nil,Nat.reduceAdd,Nat.reduceSub,List.replicate_succ,List.replicate_zero,List.cons_append,List.nil_append])
 (repeat' (first|(apply WL.opN;exact yF;dsimp only [ZA,z0,z1])|refine WL.nil ?_|refine ZC fun Kx hK=>?_|(refine hK _ _ ?_;clear hK)|refine WC.region ?_|(apply WL.opN;(focus ((first|exact ZBq|fail);all_goals infer_instance));dsimp only [ZA,z0,z1])|refine WC.block ?_))
 (first|refine Ze (t:=0) rfl ZFf fun hl0=>?_|refine Ze (t:=0) rfl ZFe fun hl0=>?_);simp only [maxLen] at hl0
 (first|refine Ze (t:=1) rfl ZFf fun hl1=>?_|refine Ze (t:=1) rfl ZFe fun hl1=>?_);simp only [maxLen] at hl1
 (refine WC.loopU (X:=Nat) (fun k=>[(13,dI (k:Int)),(6,dA),(7,dA),(8,dA),(9,dA),(10,dA),(14,dA),(15,dA),(16,dA),(17,dA),(18,dA),(19,dA),(20,dA),(21,dA),(22,dA),(23,dA),(24,dA),(25,dA),(26,dA),(27,dA),(28,dA),(29,dA),(30,dA),(31,dA),(32,dA),(33,dA)]) (fun k=>[]) (fun k=>a.length-k) (fun k=>k≤a.length/\k≤b.length/\ZA7 a b=ZA7 (a.drop k) (b.drop k)) 0 ?start ?frame0 ?objs0 ?round)
 case start=>exact ⟨Nat.zero_le _,Nat.zero_le _,rfl⟩
 case frame0=>((try dsimp only [Za,z0,z1]);repeat (first|exact LeF.nil|refine ZF (k:=?_)))
 case objs0=>rfl
 case round =>
  rintro k ⟨h1,h2,h3⟩
  dsimp only [Za,z0,z1]
  ((repeat' (first|(apply WL.opN;exact yF;dsimp only [ZA,z0,z1])|refine WL.nil ?_|refine ZC fun Kx hK=>?_|(refine hK _ _ ?_;clear hK)|(refine Kont.skip ?_;clear hK)|refine WC.region ?_|(apply WL.alloc;(exact tzV);(first|exact ZN rfl|exact ZW);(intro _;dsimp only [ZA,z0,z1]))|(apply ZG;(exact tD);rfl;(exact oD);(exact hD);dsimp only [ZA,z0,z1])|(apply WL.opN;(focus ((first|(apply ZBd (x:=((a[k],b[k]):Vx × Vx));(exact OpD.t rfl);(exact aD))|exact ZBy|exact ZS0|exact ZFc|exact ZCk|exact ZBq|exact Zg|fail);all_goals infer_instance));dsimp only [ZA,z0,z1])|(apply ZE;(exact oD);all_goals (intro h;try exact xD))|(apply WC.condN;(exact oD);all_goals (intro h;try exact xD))|refine WC.skip ?_|refine WC.ret ?_|refine WC.exit ?_|refine WC.block ?_|refine ThenD.n ?_|refine ThenD.r ?_|refine InBlockD.r ?_));all_goals (first|((repeat clear hK);(repeat clear Kx))))
  all_goals first
   | ((refine ⟨k+1,?_,by first|omega|(simp only;omega),rfl,?_⟩;rotate_left;((try dsimp only [Za,z0,z1]);repeat (first|exact LeF.nil|refine ZF (k:=?_)));(try dsimp only));exact ⟨by omega,by omega,h3.trans (ZGH (by omega) (by omega) (by assumption))⟩)
   | ((refine ⟨trivial,_,rfl,?_⟩;refine FinD.i ?_);rw [h3,ZEV];repeat' split) <;> first|rfl|contradiction|omega
theorem ZJN (a b:List Vx):Fn Tryz.prog 61 [dS ZI a,dS ZI b] (dI (ZA7 a b)):=by
 (refine ZH Tryz.func61 rfl rfl ?_;simp only [Tryz.ntmps61,List.length_cons,List.length_nil,Nat.reduceAdd,Nat.reduceSub,List.replicate_succ,List.replicate_zero,List.cons_append,List.nil_append])
 ((repeat' (first|(apply WL.opN;exact yF;dsimp only [ZA,z0,z1])|refine WL.nil ?_|refine ZC fun Kx hK=>?_|(refine hK _ _ ?_;clear hK)|refine WC.region ?_|(apply WL.opN;(focus ((first|(apply SY.call (ZOI _ _) Tryz.call87;(exact aD))|fail);all_goals infer_instance));dsimp only [ZA,z0,z1])|refine WC.ret ?_));all_goals (first|((repeat clear hK);(repeat clear Kx))))
 all_goals (refine ⟨trivial,_,rfl,?_⟩;exact fD)
theorem ZUo (a b:List Vx):Fn Tryz.prog 38 [dS ZI a,dS ZI b] (dB (decide (a=b))):=by
 (refine ZH Tryz.func38 rfl rfl ?_;simp only [Tryz.ntmps38,List.length_cons,List.length_nil,Nat.reduceAdd,Nat.reduceSub,List.replicate_succ,List.replicate_zero,List.cons_append,List.nil_append])
 ((repeat' (first|((first|apply WL.opN|apply WD.opN);exact yF;dsimp only [ZA,z0,z1])|refine WL.nil ?_|refine ZC fun Kx hK=>?_|(refine hK _ _ ?_;clear hK)|refine WC.region ?_|((first|apply WL.opN|apply WD.opN);(focus ((first|exact ZFc|exact ZBq|fail);all_goals infer_instance));dsimp only [ZA,z0,z1])|(apply WC.condN;(exact oD);all_goals (intro h;try exact xD))|refine WC.skip ?_|refine WC.ret ?_|refine WC.block ?_|refine ThenD.r ?_));all_goals (first|refine WC.id ?_|((repeat clear hK);(repeat clear Kx))))
 ·(refine ⟨trivial,_,rfl,?_⟩;refine FinD.b ?_)
  have:a≠b:=fun e=>h (by rw [e])
  simp [this]
 ·have h0:=h
  (first|refine Ze (t:=0) rfl ZFf fun hl0=>?_|refine Ze (t:=0) rfl ZFe fun hl0=>?_);simp only [maxLen] at hl0
  have h0':a.length=b.length:=by omega
  (refine WC.loopU (X:=Nat) (fun k=>[(13,dI (k:Int)),(4,dA),(5,dA),(14,dA),(15,dA),(16,dA),(17,dA),(18,dA),(19,dA),(20,dA),(21,dA),(22,dA),(23,dA),(24,dA),(25,dA)]) (fun k=>[]) (fun k=>a.length-k) (fun k=>k≤a.length/\a.take k=b.take k) 0 ?start ?frame0 ?objs0 ?round)
  case start=>simp
  case frame0=>((try dsimp only [Za,z0,z1]);repeat (first|exact LeF.nil|refine ZF (k:=?_)))
  case objs0=>rfl
  case round =>
   rintro k ⟨h1,h2⟩
   dsimp only [Za,z0,z1]
   ((repeat' (first|((first|apply WL.opN|apply WD.opN);exact yF;dsimp only [ZA,z0,z1])|refine WL.nil ?_|refine WD.nil ?_|refine ZC fun Kx hK=>?_|(refine hK _ _ ?_;clear hK)|(refine Kont.skip ?_;clear hK)|refine WC.region ?_|(apply WC.draw;kernel_rfl;kernel_rfl)|((first|apply WL.opN|apply WD.opN);(focus ((first|exact ZBy|exact ZFc|exact ZCk|exact Zg|fail);all_goals infer_instance));dsimp only [ZA,z0,z1])|(apply ZE;(exact oD);all_goals (intro h;try exact xD))|(apply WC.condN;(exact oD);all_goals (intro h;try exact xD))|refine WC.skip ?_|refine WC.ret ?_|refine WC.exit ?_|refine WC.block ?_|refine ThenD.n ?_|refine ThenD.r ?_|refine InBlockD.r ?_));all_goals (first|((repeat clear hK);(repeat clear Kx))))
   ·(refine ⟨trivial,_,rfl,?_⟩;refine FinD.b ?_)
    have:a≠b:=fun e=>h (by subst e;rfl)
    simp [this]
   ·(refine ⟨k+1,?_,by first|omega|(simp only;omega),rfl,?_⟩;rotate_left;((try dsimp only [Za,z0,z1]);repeat (first|exact LeF.nil|refine ZF (k:=?_)));(try dsimp only))
    exact ⟨by omega,by rw [ZZ (by omega),ZZ (by omega),h2,h]⟩
   ·rw [List.take_of_length_le (by omega),List.take_of_length_le (by omega)] at h2
    (refine ⟨trivial,_,rfl,?_⟩;refine FinD.b ?_)
    simp [h2]
end
end Go.Proofs.YtekiljakcngcoaaGreatDoor
