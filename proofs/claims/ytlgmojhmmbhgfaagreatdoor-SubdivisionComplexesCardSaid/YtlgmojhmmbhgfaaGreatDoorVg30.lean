/- Part 30: walks by contracts, and plain laws. -/
import Derived.Test.YtlgmojhmmbhgfaaGreatDoorVg28
set_option linter.unusedVariables false
set_option linter.unusedSimpArgs false
set_option linter.unusedSectionVars false
set_option maxRecDepth 100000
set_option maxHeartbeats 4000000
namespace Go.Proofs.YtlgmojhmmbhgfaaGreatDoor.M
section
open Go.RowKit

section
variable {P:Program} {ops:Array Oper} {hp:List HObj} {fr:List Dat} {dst:Option Tmp} {ty:TypeId} {ps:String} {af:Array Edge} {g:Option (Nat × Bool)} {t e:TypeId} {n bytes:Nat} {z:Value} {ag:Bool}
theorem SY.buildE (E:ElT P t e n z bytes ag) {α:Type} {R:Rel α} {_gR:Good R} {len:Nat} {parts:Array (Nat × Operand)} {els:List α} (hx:ElsD fr R (parts.toList.map Prod.snd) els) (hparts:parts.toList=((parts.toList.map Prod.snd).zipIdx).map (fun p=>(p.2,p.1))) (hl:len=els.length) (hn:0<n) (hs:∀ a,(dS R a).Shape n true) (hsm:els.length*n≤16777216) :
  SY P ops hp ⟨dst,.buildSlice t len parts,ty,ps,af,g⟩ fr (dS (ArrK n R) els):=SY.buildK E hx hparts hl hn hs hsm
end
theorem ZK6 (x y:Vx):ZAz [x] [y]=ZA0 x y:=by
 unfold ZAz
 by_cases h:ZA0 x y=0
 ·rw [if_pos h,h];rfl
 ·rw [if_neg h]
theorem vtx_p (x y:Vx):Fn Tryz.prog 108 [dS RV x,dS RV y] (dI (ZA0 x y)):=by
 (refine ZG Tryz.func108 rfl rfl ?_;simp only [Tryz.ntmps108,List.length_cons,List.length_nil,Nat.reduceAdd,Nat.reduceSub,List.replicate_succ,List.replicate_zero,List.cons_append,List.nil_append])
 ((repeat' (first|(apply ZJ;(focus (apply ZF;(exact ZR rfl);(first|(apply SY.assign <;> (exact oD))|(apply SY.load;(exact tD);(exact OpD.t rfl)))));dsimp only [ZB,z0,z1])|refine WL.nil ?_|refine ZA fun Kx hK=>?_|(refine hK _ _ ?_;clear hK)|refine WC.region ?_|(apply ZJ;(focus (apply ZF;(exact ZR rfl);((first|(apply SY.call (ZIt [x] [y]) Tryz.call64;(exact aD))|(apply SY.buildE;(exact eD);((try simp only [List.map_cons,List.map_nil]);(repeat (first|exact Zq|(apply Zh;(first|exact OpD.t rfl|exact OpD.i|exact OpD.b|exact OpD.tle rfl (by first|exact ZI|exact ZH (by decide))|exact ⟨ZI⟩|exact ⟨ZH (by decide)⟩)))));rfl;rfl;decide;(intro _;exact ZAV);(exact (by simp)))|(apply SY.box;(exact oD);(exact hD))|fail);all_goals infer_instance)));dsimp only [ZB,z0,z1])|refine WC.ret ?_));all_goals (first|((repeat clear hK);(repeat clear Kx))))
 all_goals (rw [ZK6];(refine ⟨trivial,_,rfl,?_⟩;refine FinD.i ?_);try rfl)
theorem vtx_x (x y:Vx) (w:World):Calls Tryz.prog 108 #[.agg #[.int .i64 x.1,.int .i64 x.2],.agg #[.int .i64 y.1,.int .i64 y.2]] w fun e w'=>e = .returned (.int .i64 (ZA0 x y))/\∃ q os',w'=Go.Sort.grow (w.drewN q) os':=by
 have:=(vtx_p x y).out (fun _=>True) w [.agg #[.int .i64 x.1,.int .i64 x.2],.agg #[.int .i64 y.1,.int .i64 y.2]] rfl (fun i d hd=>by
  match i with
  | 0=>cases hd;rfl
  | 1=>cases hd;rfl
  | i+2=>simp at hd)
 exact this.mono fun e w' ⟨v,h1,h2,h3⟩=>⟨by rw [h1];exact congrArg _ h3,h2.grow⟩
end
section
open Go.RowKit

theorem don_p (x y:Vx):Fn Tryz.prog 63 [dS RV x,dS RV y] (dI (ZA0 x y)):=by
 (refine ZG Tryz.func63 rfl rfl ?_;simp only [Tryz.ntmps63,List.length_cons,List.length_nil,Nat.reduceAdd,Nat.reduceSub,List.replicate_succ,List.replicate_zero,List.cons_append,List.nil_append])
 ((repeat' (first|(apply ZJ;(focus (apply ZF;(exact ZR rfl);(first|(apply SY.assign <;> (exact oD))|(apply SY.load;(exact tD);(exact OpD.t rfl)))));dsimp only [ZB,z0,z1])|refine WL.nil ?_|refine ZA fun Kx hK=>?_|(refine hK _ _ ?_;clear hK)|refine WC.region ?_|(apply ZJ;(focus (apply ZF;(exact ZR rfl);((first|(apply SY.call (ZIt [x] [y]) Tryz.call64;(exact aD))|(apply SY.buildE;(exact eD);((try simp only [List.map_cons,List.map_nil]);(repeat (first|exact Zq|(apply Zh;(first|exact OpD.t rfl|exact OpD.i|exact OpD.b|exact OpD.tle rfl (by first|exact ZI|exact ZH (by decide))|exact ⟨ZI⟩|exact ⟨ZH (by decide)⟩)))));rfl;rfl;decide;(intro _;exact ZAV);(exact (by simp)))|(apply SY.box;(exact oD);(exact hD))|fail);all_goals infer_instance)));dsimp only [ZB,z0,z1])|refine WC.ret ?_));all_goals (first|((repeat clear hK);(repeat clear Kx))))
 all_goals (rw [ZK6];(refine ⟨trivial,_,rfl,?_⟩;refine FinD.i ?_);try rfl)
theorem don_x (x y:Vx) (w:World):Calls Tryz.prog 63 #[.agg #[.int .i64 x.1,.int .i64 x.2],.agg #[.int .i64 y.1,.int .i64 y.2]] w fun e w'=>e = .returned (.int .i64 (ZA0 x y))/\∃ q os',w'=Go.Sort.grow (w.drewN q) os':=by
 have:=(don_p x y).out (fun _=>True) w [.agg #[.int .i64 x.1,.int .i64 x.2],.agg #[.int .i64 y.1,.int .i64 y.2]] rfl (fun i d hd=>by
  match i with
  | 0=>cases hd;rfl
  | 1=>cases hd;rfl
  | i+2=>simp at hd)
 exact this.mono fun e w' ⟨v,h1,h2,h3⟩=>⟨by rw [h1];exact congrArg _ h3,h2.grow⟩
end
end Go.Proofs.YtlgmojhmmbhgfaaGreatDoor.M
namespace Go.Proofs.YtlgmojhmmbhgfaaGreatDoor
section
def ZCZ (a:Cx):List Vx:=ZBE [] a.flatten
theorem ZCy {a:Cx} {v:Vx}:v∈ZCZ a↔∃ s∈a,v∈s:=by unfold ZCZ;rw [ZBm];simp
theorem ZH4 (a:Cx):Asc (ZCZ a):=ZCr (by simp [Asc])
theorem ZP1 (s a b:List Vx):ZBE s (a++b)=ZBE (ZBE s a) b:=by unfold ZBE;rw [List.foldl_append]
theorem ZOs {a:Cx} {k:Nat} (h:k<a.length):ZCZ (a.take (k+1))=ZBE (ZCZ (a.take k)) a[k]:=by
 unfold ZCZ
 rw [ZP h,List.flatten_append,ZP1]
 simp
def Apart (a b:Cx):Prop:=∀ s∈a,∀ t∈b,∀ v∈s,v∉t
theorem Apart.symm {a b:Cx} (h:Apart a b):Apart b a:=fun s hs t ht v v1 v2=>h t ht s hs v v2 v1
end
section
open Go.RowKit

section
variable {ops:Array Oper} {hp:List HObj} {fr:List Dat} {Q:ZAL} {rest:List Oper} {dst:Option Tmp} {ty:TypeId} {ps:String} {af:Array Edge}
theorem ZMy {x:Operand} {n:Nat} {ats:Array TypeId} (hx:OpD fr x (dI (n:Int))) (h0:n=0)
  (h:∀ v:Value,WL Tryz.prog ops Q rest (ZB fr dst (dX v)) (ZV v 43 2 RV ([]:List Vx)::hp)) :
  WL Tryz.prog ops Q (⟨dst,.call { callee:=.value (.func 131),args:=#[.const (.slice none 0 0),x],argTypes:=ats },ty,ps,af,none⟩::rest) fr hp:=by
 subst h0
 refine WL.of fun P0 B w0 w a hh hf=>?_
 have hcon:=Any8.slices_Grow_room Tryz.growV none 0 0 0 w (Nat.le_refl _) (by omega) (by omega) (by omega)
 change Calls Tryz.prog 131 _ _ _ at hcon
 have hev:a.eval x = .int .i64 ((0:Nat):Int):=hx.ev hf
 have hrun:(execOp a.eval ⟨dst,.call { callee:=.value (.func 131),args:=#[.const (.slice none 0 0),x],argTypes:=ats },ty,ps,af,none⟩).run Tryz.prog w = .ok (.enter 131 #[.slice none 0 0,.int .i64 ((0:Nat):Int)]) w:=by
  unfold execOp
  simp only [resolve]
  have he:(#[Operand.const (.slice none 0 0),x]:Array Operand).map a.eval=#[.slice none 0 0,.int .i64 ((0:Nat):Int)]:=by simp [hev];rfl
  rw [he]
  simp [Act.eval,Deferred.ofValue,invoke,Tryz.call131]
 refine wpList_plain rfl fun K hK=>?_
 unfold Oper.wp
 rw [hrun]
 refine hcon.mono fun e' w' ⟨he,hw'⟩=>?_
 subst he
 subst hw'
 refine hK _ _ ((ZDX 43 2 (by decide) RV (h (.slice none 0 0))).on hh (Fr.put hf rfl))
end
set_option maxHeartbeats 4000000 in
theorem ZQI (ss:List (List Vx)) (hl:ss.flatten.length≤1000):CallC Tryz.prog 107 [dS Zc ss] [] (fun d hp2=>∃ v,d=dX v/\hp2=[ZV v 43 2 RV ss.flatten]):=by
 have hstep:∀ (k:Nat) (hk:k<ss.length),(ss.take (k+1)).flatten=(ss.take k).flatten++ss[k]:=fun k hk=>by rw [ZP hk,List.flatten_append];simp
 have hle:∀ k:Nat,(ss.take k).flatten.length≤ss.flatten.length:=fun k=>by
  conv=>rhs;rw [<- List.take_append_drop k ss]
  rw [List.flatten_append,List.length_append];omega
 (refine Z5 Tryz.func107 rfl rfl (fun hp=>?_);simp only [Tryz.ntmps107,List.length_cons,List.length_nil,List.length_append,List.length_map,Nat.reduceAdd,Nat.reduceSub,List.replicate_succ,List.replicate_zero,List.cons_append,List.nil_append,List.map_cons,List.map_nil,List.append_assoc])
 (repeat' (first|(apply WL.opN;exact yF;dsimp only [ZB,z0,z1])|refine WL.nil ?_|refine ZA fun Kx hK=>?_|(refine hK _ _ ?_;clear hK)|refine WC.region ?_|(apply WL.opN;(focus ((first|(apply SY.len;(exact oD);(exact nD);(exact uD))|fail);all_goals infer_instance));dsimp only [ZB,z0,z1])|refine WC.block ?_))
 (first|refine ZS (t:=0) rfl ZFJ fun hl0=>?_|refine ZS (t:=0) rfl ZFI fun hl0=>?_|refine ZS (t:=0) rfl ZPV fun hl0=>?_);simp only [maxLen] at hl0
 (refine WC.loopU (X:=Nat) (fun k=>[(3,dI ((ss.take k).flatten.length:Int)),(11,dI (k:Int)),(5,dA),(12,dA),(13,dA),(14,dA),(15,dA),(16,dA),(17,dA),(18,dA),(19,dA),(20,dA),(21,dA),(22,dA)]) (fun k=>hp) (fun k=>ss.length-k) (fun k=>k≤ss.length) 0 ?start ?frame0 ?objs0 ?round)
 case start=>simp
 case frame0=>((try dsimp only [ZK,z0,z1]);repeat (first|exact LeF.nil|refine ZD (k:=?_)))
 case objs0=>rfl
 case round =>
  rintro k h1
  dsimp only [ZK,z0,z1]
  have hk1:=hle k
  by_cases hks:k<ss.length
  ·((repeat' (first|(apply WL.opN;exact yF;dsimp only [ZB,z0,z1])|refine WL.nil ?_|refine ZA fun Kx hK=>?_|(refine hK _ _ ?_;clear hK)|refine WC.region ?_|(apply WL.opN;(focus ((first|(apply SY.add;exact OpD.t rfl;exact OpD.t rfl;(have:=hstep k (by omega);have h7:=hle (k+1);rw [this,List.length_append] at h7;omega))|((first|apply SY.move|apply SY.assign|apply SY.lss) <;> (exact oD))|((first|apply SY.add) <;> first|exact oD|omega)|(apply SY.len;(exact oD);(exact nD);(exact uD))|(apply ZAw;(exact eD);(exact oD);(exact oD);exact kD)|fail);all_goals infer_instance));dsimp only [ZB,z0,z1])|(apply ZC;(exact oD);all_goals (intro h;try exact xD))|refine WC.skip ?_|refine WC.block ?_|refine ThenD.n ?_));all_goals (first|((repeat clear hK);(repeat clear Kx))))
   all_goals
    have h5:=hstep k (by omega)
    have h6:((ss.take (k+1)).flatten.length:Int)=(ss.take k).flatten.length+(ss[k]'(by omega)).length:=by rw [h5,List.length_append];rfl
    rw [<- h6]
    (refine ⟨k+1,?_,by first|omega|(simp only;omega),rfl,?_⟩;rotate_left;((try dsimp only [ZK,z0,z1]);repeat (first|exact LeF.nil|refine ZD (k:=?_)));(try dsimp only))
    omega
  ·have hk2:(ss.take k).flatten=ss.flatten:=by rw [List.take_of_length_le (by omega)]
   rw [hk2]
   by_cases h0:0<ss.flatten.length
   all_goals
    (repeat' (first|(apply WL.opN;exact yF;dsimp only [ZB,z0,z1])|refine WL.nil ?_|refine ZA fun Kx hK=>?_|(refine hK _ _ ?_;clear hK)|(refine Kont.skip ?_;clear hK)|refine WC.region ?_ |  (apply ZPl;exact OpD.t rfl;exact h0;exact hl;intro vg;dsimp only [ZB,z0,z1]) |  (apply ZMy;exact OpD.t rfl;exact (by omega);intro vg;dsimp only [ZB,z0,z1])|(apply WL.opN;(focus ((first|((first|apply SY.move|apply SY.assign|apply SY.lss) <;> (exact oD))|(apply SY.len;(exact oD);(exact nD);(exact uD))|fail);all_goals infer_instance));dsimp only [ZB,z0,z1])|(apply ZC;(exact oD);all_goals (intro h;try exact xD))|refine WC.exit ?_|refine WC.block ?_))
    (refine WC.loopU (X:=Nat × Value) (fun x=>[(6,dX x.2),(27,dI (x.1:Int)),(8,dA),(28,dA),(29,dA),(30,dA),(31,dA),(32,dA),(33,dA),(34,dA)]) (fun x=>(ZV x.2 43 2 RV ((ss.take x.1).flatten)::hp)) (fun x=>ss.length-x.1) (fun x=>x.1≤ss.length) (0,vg) ?start ?frame0 ?objs0 ?round)
    case start=>simp
    case frame0=>((try dsimp only [ZK,z0,z1]);repeat (first|exact LeF.nil|refine ZD (k:=?_)))
    case objs0=>rfl
    case round =>
     rintro ⟨j,u⟩ q1
     dsimp only [ZK,z0,z1]
     simp only at q1
     have q2:=hle j
     have q3:∀ (hj:j<ss.length),(ss.take j).flatten.length+ss[j].length≤1000:=fun hj=>by
      have h7:=hle (j+1)
      rw [hstep j hj,List.length_append] at h7
      omega
     ((repeat' (first|(apply WL.opN;exact yF;dsimp only [ZB,z0,z1])|refine WL.nil ?_|refine ZA fun Kx hK=>?_|(refine hK _ _ ?_;clear hK)|(refine Kont.skip ?_;clear hK)|refine WC.region ?_ |  (apply WL.appK;exact elV;exact OpD.t rfl;exact OpD.t rfl;decide;(have:=q3 (by omega);omega);(intro _;dsimp only [ZB,z0,z1]);all_goals (try infer_instance))|(apply WL.opN;(focus ((first|((first|apply SY.move|apply SY.assign|apply SY.lss) <;> (exact oD))|((first|apply SY.add) <;> first|exact oD|omega)|(apply ZAw;(exact eD);(exact oD);(exact oD);exact kD)|fail);all_goals infer_instance));dsimp only [ZB,z0,z1])|(apply ZC;(exact oD);all_goals (intro h;try exact xD))|refine WC.skip ?_|refine WC.ret ?_|refine WC.exit ?_|refine WC.block ?_|refine ThenD.n ?_));all_goals (first|((repeat clear hK);(repeat clear Kx))))
     ·(refine ⟨(j+1,_) , ?_,by first|omega|(simp only;omega),by ((try simp only);  (rw [hstep j (by omega)])),?_⟩;rotate_left;((try dsimp only [ZK,z0,z1]);repeat (first|exact LeF.nil|refine ZD (k:=?_)));(try dsimp only))
      omega
     ·exact ⟨trivial,_,[_],rfl,rfl,u,rfl,by rw [List.take_of_length_le (by omega)]⟩
theorem ZEW {l:Cx} (h:∀ s∈l,s.length≤8):l.flatten.length≤8*l.length:=by
 induction l with
 | nil=>simp
 | cons s l ih =>
  have h1:=ih fun x hx=>h x (List.mem_cons_of_mem _ hx)
  have h2:=h s (by simp)
  rw [List.flatten_cons,List.length_append,List.length_cons]
  omega
set_option maxHeartbeats 4000000 in
theorem ZKW (l:Cx) (hfl:l.flatten.length≤1000):Fn Tryz.prog 83 [dS Zc l] (dS ZE (ZCZ l)):=by
 (refine ZG Tryz.func83 rfl rfl ?_;simp only [Tryz.ntmps83,List.length_cons,List.length_nil,Nat.reduceAdd,Nat.reduceSub,List.replicate_succ,List.replicate_zero,List.cons_append,List.nil_append])
 ((repeat' (first|(apply WL.opN;exact yF;dsimp only [ZB,z0,z1])|refine WL.nil ?_|refine ZA fun Kx hK=>?_|(refine hK _ _ ?_;clear hK)|refine WC.region ?_ |  (refine Z8 (hp1:=[]) (caps:=[]) (ZQI l (by omega)) Tryz.call107 OpD.f (ArgsD.cons (OpD.t rfl) ArgsD.nil) ?_;rintro d' hp2 ⟨vc,rfl,rfl⟩;dsimp only [ZB,z0,z1,List.cons_append,List.nil_append]) |  (refine ZEM Tryz.call108 M.vtx_x (OpD.t rfl) (by omega) ?_;intro ys hperm hsort;dsimp only [ZB,z0,z1]) |  (refine ZHP (ZIu ys vc hsort (by rw [hperm.length_eq];omega)) Tryz.call109 ?_ ?_;(exact aD);intro vd zs hzs;dsimp only [ZB,z0,z1])|refine WC.ret ?_));all_goals (first|((repeat clear hK);(repeat clear Kx))))
 all_goals
  have hz:zs=ZCZ l:=ZDD hzs.1 (ZH4 l) fun u=>by rw [hzs.2,hperm.mem_iff,ZCy,List.mem_flatten]
  subst hz
  (refine ⟨trivial,_,rfl,?_⟩;exact fD)
def ZHH (l:Cx):List Vx × Int:=if ZBH l≠0 then ([],ZBH l) else (ZCZ l,0)
theorem ZJf (l:Cx) (hl:ZBH l=0->l.flatten.length≤1000):Fn Tryz.prog 42 [dS Cpx l] (dT [dS ZE (ZHH l).1,dI (ZHH l).2]):=by
 (refine ZBF Tryz.func42 rfl rfl ?_;simp only [Tryz.ntmps42,List.length_cons,List.length_nil,Nat.reduceAdd,Nat.reduceSub,List.replicate_succ,List.replicate_zero,List.cons_append,List.nil_append])
 by_cases h0:ZBH l=0
 ·have e:ZHH l=(ZCZ l,0):=by unfold ZHH;rw [if_neg (by omega)]
  have c1:=ZKW l (hl h0)
  ((repeat' (first|(apply WL.opN;exact yF;dsimp only [ZB,z0,z1])|refine WL.nil ?_|refine ZA fun Kx hK=>?_|(refine hK _ _ ?_;clear hK)|refine WC.region ?_|(apply WL.opN;(focus ((first|(apply SY.call (ZF1 _) Tryz.call33;(exact aD))|(apply SY.call (c1) Tryz.call83;(exact aD))|((first|apply SY.move|apply SY.assign|apply SY.neq) <;> (exact oD))|(apply Zs ZCt;exact OpD.t rfl)|(apply SY.box;(exact oD);(exact hD))|fail);all_goals infer_instance));dsimp only [ZB,z0,z1])|(apply ZL;(exact oD);all_goals (intro h;try exact xD))|refine WC.skip ?_|refine WC.ret ?_));all_goals (first|((repeat clear hK);(repeat clear Kx))))
  rw [e];(refine ⟨trivial,⟨_,rfl,?_⟩,_,rfl,?_⟩ <;> exact fD)
 ·have e:ZHH l=([],ZBH l):=by unfold ZHH;rw [if_pos h0]
  ((repeat' (first|(apply WL.opN;exact yF;dsimp only [ZB,z0,z1])|refine WL.nil ?_|refine ZA fun Kx hK=>?_|(refine hK _ _ ?_;clear hK)|refine WC.region ?_|(apply WL.opN;(focus ((first|(apply SY.call (ZF1 _) Tryz.call33;(exact aD))|((first|apply SY.move|apply SY.assign|apply SY.neq) <;> (exact oD))|(apply SY.box;(exact oD);(exact hD))|fail);all_goals infer_instance));dsimp only [ZB,z0,z1])|(apply ZL;(exact oD);all_goals (intro h;try exact xD))|refine WC.ret ?_|refine ThenD.r ?_));all_goals (first|((repeat clear hK);(repeat clear Kx))))
  rw [e];(refine ⟨trivial,⟨_,rfl,?_⟩,_,rfl,?_⟩ <;> exact fD)
theorem ZCN (l:Cx) (hl:l.length≤100):Fn Tryz.prog 42 [dS Cpx l] (dT [dS ZE (ZHH l).1,dI (ZHH l).2]):=ZJf l fun h0=>by have:=ZEW (ZAH.1 h0).short;omega
end
end Go.Proofs.YtlgmojhmmbhgfaaGreatDoor
