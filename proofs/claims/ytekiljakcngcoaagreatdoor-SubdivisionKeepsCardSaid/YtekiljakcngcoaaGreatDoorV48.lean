/- Part 48: walks by contracts, and plain laws. -/
import Derived.Test.YtekiljakcngcoaaGreatDoorV47
set_option linter.unusedVariables false
set_option linter.unusedSimpArgs false
set_option linter.unusedSectionVars false
set_option maxRecDepth 100000
set_option maxHeartbeats 4000000
namespace Go.Proofs.YtekiljakcngcoaaGreatDoor
section
open Go.RowKit
theorem ZJM (l:Cx):Fn Tryz.prog 7 [dS CpxL l] (dT [dS ZG6 (ZKI l).1,dI (ZKI l).2]):=by
 by_cases h0:ZAr l=0
 ·by_cases hw:ZP0 l=0
  ·have hG:=Z4.1 h0
   obtain ⟨_,h5,_⟩:=ZGp hw
   have hR:ZKI l=((ZCv (ZC4 (ZAL l) l),ZCH [] (ZC4 (ZAL l) l).flatten,(ZCH [] (ZC4 (ZAL l) l).flatten).map (ZGr (ZAL l))),0):=by
    unfold ZKI ZVh
    rw [if_neg (by omega),if_neg (by omega),ZSz hG.2.2.1 h5 hG]
    rw [List.map_map,List.map_map]
    congr 1
    congr 1
    congr 1
    exact List.map_id' _
   rw [hR]
   exact ZNK (ZJL l h0 hw) fun d hp2 ⟨v,h1,h2⟩=>by subst h1;subst h2;exact ZNI
  ·have he:ZGs l=ZP0 l:=by rw [ZHt,if_neg (by omega)]
   have hR:ZKI l=(([],[],[]),ZGs l):=by unfold ZKI ZVh;rw [if_neg (by omega),if_pos hw,he]
   rw [hR]
   exact ZLe l (by omega)
 ·have he:ZGs l=ZAr l:=by rw [ZHt,if_pos h0]
  have hR:ZKI l=(([],[],[]),ZGs l):=by unfold ZKI;rw [if_pos h0,he]
  rw [hR]
  exact ZLe l (by omega)
end
section
open Go.RowKit
section
variable {P:Program} {ops:Array Oper} {hp:List HObj} {fr:List Dat} {d:Dat} {dst:Option Tmp} {ty:TypeId} {ps:String} {af:Array Edge} {g:Option (Nat × Bool)}
theorem ZCN {op:BinOp} {x y:Operand} {T T2:TypeId} {p q:Int} {r:Value} (hx:OpD fr x (dX (.int .u8 p))) (hy:OpD fr y (dX (.int .u8 q))) (hr:∀ w,(Go.binOp op T (.int .u8 p) (.int .u8 q)).run P w = .ok r w) (hd:∀ (I:Nat->Prop) (w:World),d.rd I w r):SY P ops hp ⟨dst,.binOp op T x y T2,ty,ps,af,g⟩ fr d :=
 SY.val fun {I w a} ho=>by
  have h1:a.eval x = .int .u8 p:=hx.get (by simp [Op.operands]) ho
  have h2:a.eval y = .int .u8 q:=hy.get (by simp [Op.operands]) ho
  refine ⟨r,?_,hd _ _⟩
  unfold execOp
  have hg:(eqGuard op T x y (.int .u8 p) (.int .u8 q)).run P w = .ok () w:=by unfold eqGuard;split <;> simp
  simp only [h1,h2,Sem.run_bind,hg,hr,Result.andThen_ok,Sem.run_pure]
theorem ZFm {x y:Operand} {p:Bool} (hx:OpD fr x (dB p)) (hy:OpD fr y (dB p)):SY Tryz.prog ops hp ⟨dst,.binOp .neq 4 x y 4,ty,ps,af,g⟩ fr (dB false):=by
 have h:=Zn (T2:=4) (P:=Tryz.prog) (ops:=ops) (hp:=hp) (dst:=dst) (ty:=ty) (ps:=ps) (af:=af) (g:=g) hx hy ZCF
 rwa [show (p != p)=false by cases p <;> rfl] at h
end
theorem ZUD:∀ k:Fin 256,∀ (T:TypeId) (w:World),(Go.binOp .rem T (.int .u8 (k.val:Int)) (.int .u8 2)).run Tryz.prog w = .ok (.int .u8 ((k.val % 2:Nat):Int)) w:=by
 intro k T w
 have h1:k.val<256:=k.isLt
 have h3:Int.tmod (k.val:Int) 2=(k.val:Int) % 2:=Int.tmod_eq_emod_of_nonneg (by omega)
 simp [Go.binOp,Op.intDiv]
 exact h3
theorem eq_u8 (n:Int) (T:TypeId) (w:World):(Go.binOp .eql T (.int .u8 n) (.int .u8 0)).run Tryz.prog w = .ok (.bool (decide (n=0))) w:=by
 simp [Go.binOp,Op.intCmp]
 rfl

theorem ZL3 {l F:Cx} {V:List Vx} {C:Cx} (H:Kept l (F,V,C)):Fn Tryz.prog 9 [dS Cpx F] (dT [dI (ZFU l),dB (ZDo l),dI 0])/\Fn Tryz.prog 10 [dS Cpx F] (dT [dI (ZGw l).1,dI 0]) /\
  Fn Tryz.prog 11 [dS Cpx l,dS ZG6 (F,V,C)] (dI 0)/\Fn Tryz.prog 12 [dS Cpx F] (dT [dS ZCC (ZBK F),dI 0])/\(0<l.length->Fn Tryz.prog 13 [dS ZCC (ZBK F)] (dI (ZMx (ZBK l))))/\(ZBK F).length=F.length/\(F.length=0↔l.length=0)/\F.length≤39:=by
 have h0:ZAr F=0:=Z4.2 H.good
 have h1:=H.few
 have h2:=H.cars
 have h3:=H.dim
 have h4:=H.size
 have h5:=H.eul
 have h6:=H.chk
 have h7:=H.zero
 have h8:=H.comp
 simp only at h1 h2 h3 h4 h5 h6 h7 h8
 have a2:=ZFV F
 rw [if_neg (by omega),if_neg (by omega),h0,h3,h4] at a2
 have e2:=ZJQ F
 rw [h5.1,h5.2] at e2
 have s1:=ZTP l F V C (by omega) (by omega)
 rw [h6] at s1
 have g2:=ZDq F
 rw [show ZGv F=(ZBK F,0) by unfold ZGv;rw [if_neg (by omega)]] at g2
 have hc:(ZBK F).length=F.length:=List.length_map ..
 exact ⟨a2,e2,s1,g2,fun q=>by rw [<- h8 q];exact ZSj _ (by omega),hc,h7,h1⟩
set_option maxHeartbeats 16000000 in
theorem keeps29_p (l:Cx) (k:Int) (hk:0≤k/\k≤255):Fn Tryz.prog 3 [dS CpxL l,dX (.int .u8 k)] (dB true):=by
 have ca:=ZNu
 have c0:=ZTN l
 have c1:=ZTs l 3
 by_cases h0:ZAr l=0
 ·rw [h0] at c0
  by_cases hb:decide ((l.length:Int)≤3) && decide (ZFU l≤2)
  ·have hl:l.length≤3:=by have:=of_decide_eq_true (Bool.and_eq_true_iff.1 hb).1;omega
   have hd:ZFU l≤2:=of_decide_eq_true (Bool.and_eq_true_iff.1 hb).2
   have h3:=ZOS hd
   rw [hb] at c1
   have hrem:=ZUD ⟨k.toNat,by omega⟩
   simp only [show ((k.toNat:Nat):Int)=k by omega] at hrem
   have heq:=eq_u8 ((k.toNat % 2:Nat):Int)
   have d1:=ZJM l
   have d3:=ZGt l (by omega) (fun s hs=>by have:=h3 s hs;omega)
   have a1:=ZFV l
   rw [if_neg (by omega),if_neg (by omega),h0] at a1
   have e1:=ZJQ l
   have g1:=ZDq l
   rw [show ZGv l=(ZBK l,0) by unfold ZGv;rw [if_neg (by omega)]] at g1
   have hc:(ZBK l).length=l.length:=List.length_map ..
   have m1:0<l.length->Fn Tryz.prog 13 [dS ZCC (ZBK l)] (dI (ZMx (ZBK l))):=fun q=>ZSj _ (by omega)
   by_cases hk2:k.toNat % 2=0
   ·have d1:=d1
    clear d3
    rcases ZQv h0 hl h3 with ⟨z,H⟩|z
    ·have h1e:(ZGw l).2=0:=H.eul.2
     rw [h1e] at e1
     generalize ZKI l=A at *
     obtain ⟨⟨F,V,C⟩,E⟩:=A
     simp only at z H d1
     subst z
     obtain ⟨a2,e2,s1,g2,m2,hf,hz,h39⟩:=ZL3 H
     clear H
     rw [show ((k.toNat % 2:Nat):Int)=0 by omega] at hrem heq
     generalize ZBK F=cF at *
     generalize ZBK l=cl at *
     generalize (ZGw l).1=X at *
     generalize ZMx cl=M at *
     generalize ZDo l=p at *
     generalize ZFU l=D at *
     by_cases hn:0<l.length
     ·have m1:=m1 hn
      have m2:=m2 hn
      (refine ZH Tryz.func3 rfl rfl ?_;simp only [Tryz.ntmps3,List.length_cons,List.length_nil,Nat.reduceAdd,Nat.reduceSub,List.replicate_succ,List.replicate_zero,List.cons_append,List.nil_append])
      ((repeat' (first|(apply WL.opN;exact yF;dsimp only [ZA,z0,z1])|refine WL.nil ?_|refine ZC fun Kx hK=>?_|(refine hK _ _ ?_;clear hK)|(refine Kont.skip ?_;clear hK)|refine WC.region ?_ |  (apply ZS;(focus (apply ZEE;exact ZBQ rfl rfl rfl));dsimp only [ZA,z0,z1]) |  (refine WL.alloc ZKA (ZA0 rfl rfl rfl) fun bq=>?_;dsimp only [ZA,z0,z1]) |  (refine ZG ZDp rfl (OpD.t rfl) ZAd ?_;dsimp only [ZA,z0,z1])|(apply WL.alloc;(first|exact tzV|exact tzC);(first|exact ZN rfl|exact ZW|exact ZX rfl);(intro _;dsimp only [ZA,z0,z1]))|(apply ZG;(exact tD);rfl;(exact oD);(exact hD);dsimp only [ZA,z0,z1])|(apply ZT;(exact tD);rfl;(exact oD);(exact hD);dsimp only [ZA,z0,z1])|(apply ZU;(exact tD);rfl;(exact oD);(exact hD);dsimp only [ZA,z0,z1])|(apply ZS;(focus (first|exact wN|(apply SYG.yes;(exact wY);((first|(exact SY.box (OpD.t rfl) (fun I w v h=>ZBM I w v (ZAh I w v h)))|(apply SY.load;exact tyC;exact OpD.t rfl)|(apply SY.load;exact ZDp;exact OpD.t rfl)|(apply SY.call c0 Tryz.call4;exact ArgsD.cons (OpD.tle rfl ZAh) ArgsD.nil)|(apply SY.call c1 Tryz.call5;exact ArgsD.cons (OpD.tle rfl ZAh) (ArgsD.cons OpD.i ArgsD.nil))|(exact ZCN (d:=dX (.int .u8 0)) (OpD.t rfl) OpD.x (hrem _) (fun _ _=>rfl))|(exact ZCN (d:=dB true) (OpD.t rfl) OpD.x (heq _) (fun _ _=>rfl))|(apply SY.call (d1) Tryz.call7;(exact aD))|(exact ZB2 ZCi (OpD.t rfl) ZCy rfl rfl)|(exact ZBN tyC (OpD.t rfl))|(exact ZFm (OpD.t rfl) (OpD.t rfl))|(apply SY.call a1 Tryz.call9;exact ArgsD.cons (OpD.tle rfl ZAh) ArgsD.nil)|(apply SY.call (a2) Tryz.call9;exact ArgsD.cons (OpD.t rfl) (ArgsD.nil))|(apply SY.call e1 Tryz.call10;exact ArgsD.cons (OpD.tle rfl ZAh) ArgsD.nil)|(apply SY.call (e2) Tryz.call10;exact ArgsD.cons (OpD.t rfl) (ArgsD.nil))|(apply SY.call s1 Tryz.call11;exact ArgsD.cons (OpD.tle rfl ZAh) (ArgsD.cons (OpD.t rfl) ArgsD.nil))|(apply SY.call g1 Tryz.call12;exact ArgsD.cons (OpD.tle rfl ZAh) ArgsD.nil)|(apply SY.call (g2) Tryz.call12;exact ArgsD.cons (OpD.t rfl) (ArgsD.nil))|(apply SY.call (m1) Tryz.call13;exact ArgsD.cons (OpD.t rfl) (ArgsD.nil))|(apply SY.call (m2) Tryz.call13;exact ArgsD.cons (OpD.t rfl) (ArgsD.nil))|(apply SY.call (ca) Tryz.call6;(exact aD))|((first|apply SY.move|apply SY.assign|apply SY.eql|apply SY.neq|apply SY.not) <;> (exact oD))|((first|apply SY.add|apply SY.rem) <;> first|exact oD|omega)|(apply SY.load;(exact tD);(exact oD))|(apply ZJ;(exact tD);(exact oD);(exact (by simp)))|(apply SY.len;(exact oD);(exact nD);(exact uD))|(apply ZV;exact OpD.t rfl;(first|exact .head _|exact .tail _ (.head _));(exact uD))|(apply Zf;exact OpD.t rfl;(first|exact .head _|exact .tail _ (.head _));(exact uD))|(first|(apply SY.fld0 vxT <;> (exact oD))|(apply SY.fld1 vxT <;> (exact oD))|(apply ZC7 vxT <;> (exact oD))|(apply Zm vxT <;> (exact oD)))|(apply Zb ZAA;exact OpD.t rfl)|(apply SY.eqlB;(exact oD);(exact oD);exact eqBB)|(apply Zn;(exact oD);(exact oD);exact ZCF)|(apply Zx;(exact oD);(with_reducible rfl);(exact oD))|(apply Z2;(exact oD);(with_reducible rfl);(exact oD))|(apply SY.extract;(exact oD);rfl)|(apply SY.box;(exact oD);(exact hD))|fail);all_goals infer_instance))));dsimp only [ZA,z0,z1])|((first|refine Zl rfl rfl rfl (fun h=>?_) (fun h=>?_)|refine Zk rfl rfl rfl (fun h=>?_) (fun h=>?_)|refine Zj rfl rfl rfl (fun h=>?_) (fun h=>?_)) <;> (first|(exfalso;first|omega|contradiction)|(dsimp only [z0,z1])))|(apply WC.condT;(exact oD);(with_reducible rfl))|(apply ZK;(exact oD);(with_reducible rfl))|(apply ZE;(exact oD);all_goals (intro h;try exact xD))|(apply WC.condN;(exact oD);all_goals (intro h;try exact xD))|(apply WC.condNB;(exact oD);all_goals (intro h;try exact xD))|(apply WC.cond;(exact oD);all_goals (intro h;try exact xD))|refine WC.skip ?_|refine WC.ret ?_|refine ThenD.n ?_|refine ThenD.r ?_));all_goals (first|refine WC.id ?_|refine WL.id ?_|((repeat clear hK);(repeat clear Kx))))
      all_goals first|(refine ⟨trivial,_,rfl,?_⟩;(first|exact fD|refine FinD.i ?_|refine FinD.b ?_|refine ZAQ (.head _) ?_|refine ZBC (.head _) ?_|refine ZAE (by decide) ?_|refine FinD.nilE ?_|refine ZCV ?_))|(exfalso;first|contradiction|omega)
     ·clear m1 m2
      (refine ZH Tryz.func3 rfl rfl ?_;simp only [Tryz.ntmps3,List.length_cons,List.length_nil,Nat.reduceAdd,Nat.reduceSub,List.replicate_succ,List.replicate_zero,List.cons_append,List.nil_append])
      ((repeat' (first|(apply WL.opN;exact yF;dsimp only [ZA,z0,z1])|refine WL.nil ?_|refine ZC fun Kx hK=>?_|(refine hK _ _ ?_;clear hK)|(refine Kont.skip ?_;clear hK)|refine WC.region ?_ |  (apply ZS;(focus (apply ZEE;exact ZBQ rfl rfl rfl));dsimp only [ZA,z0,z1]) |  (refine WL.alloc ZKA (ZA0 rfl rfl rfl) fun bq=>?_;dsimp only [ZA,z0,z1]) |  (refine ZG ZDp rfl (OpD.t rfl) ZAd ?_;dsimp only [ZA,z0,z1])|(apply WL.alloc;(first|exact tzV|exact tzC);(first|exact ZN rfl|exact ZW|exact ZX rfl);(intro _;dsimp only [ZA,z0,z1]))|(apply ZG;(exact tD);rfl;(exact oD);(exact hD);dsimp only [ZA,z0,z1])|(apply ZT;(exact tD);rfl;(exact oD);(exact hD);dsimp only [ZA,z0,z1])|(apply ZU;(exact tD);rfl;(exact oD);(exact hD);dsimp only [ZA,z0,z1])|(apply ZS;(focus (first|exact wN|(apply SYG.yes;(exact wY);((first|(exact SY.box (OpD.t rfl) (fun I w v h=>ZBM I w v (ZAh I w v h)))|(apply SY.load;exact tyC;exact OpD.t rfl)|(apply SY.load;exact ZDp;exact OpD.t rfl)|(apply SY.call c0 Tryz.call4;exact ArgsD.cons (OpD.tle rfl ZAh) ArgsD.nil)|(apply SY.call c1 Tryz.call5;exact ArgsD.cons (OpD.tle rfl ZAh) (ArgsD.cons OpD.i ArgsD.nil))|(exact ZCN (d:=dX (.int .u8 0)) (OpD.t rfl) OpD.x (hrem _) (fun _ _=>rfl))|(exact ZCN (d:=dB true) (OpD.t rfl) OpD.x (heq _) (fun _ _=>rfl))|(apply SY.call (d1) Tryz.call7;(exact aD))|(exact ZB2 ZCi (OpD.t rfl) ZCy rfl rfl)|(exact ZBN tyC (OpD.t rfl))|(exact ZFm (OpD.t rfl) (OpD.t rfl))|(apply SY.call a1 Tryz.call9;exact ArgsD.cons (OpD.tle rfl ZAh) ArgsD.nil)|(apply SY.call (a2) Tryz.call9;exact ArgsD.cons (OpD.t rfl) (ArgsD.nil))|(apply SY.call e1 Tryz.call10;exact ArgsD.cons (OpD.tle rfl ZAh) ArgsD.nil)|(apply SY.call (e2) Tryz.call10;exact ArgsD.cons (OpD.t rfl) (ArgsD.nil))|(apply SY.call s1 Tryz.call11;exact ArgsD.cons (OpD.tle rfl ZAh) (ArgsD.cons (OpD.t rfl) ArgsD.nil))|(apply SY.call g1 Tryz.call12;exact ArgsD.cons (OpD.tle rfl ZAh) ArgsD.nil)|(apply SY.call (g2) Tryz.call12;exact ArgsD.cons (OpD.t rfl) (ArgsD.nil))|(apply SY.call (ca) Tryz.call6;(exact aD))|((first|apply SY.move|apply SY.assign|apply SY.eql|apply SY.neq|apply SY.not) <;> (exact oD))|((first|apply SY.add|apply SY.rem) <;> first|exact oD|omega)|(apply SY.load;(exact tD);(exact oD))|(apply ZJ;(exact tD);(exact oD);(exact (by simp)))|(apply SY.len;(exact oD);(exact nD);(exact uD))|(apply ZV;exact OpD.t rfl;(first|exact .head _|exact .tail _ (.head _));(exact uD))|(apply Zf;exact OpD.t rfl;(first|exact .head _|exact .tail _ (.head _));(exact uD))|(first|(apply SY.fld0 vxT <;> (exact oD))|(apply SY.fld1 vxT <;> (exact oD))|(apply ZC7 vxT <;> (exact oD))|(apply Zm vxT <;> (exact oD)))|(apply Zb ZAA;exact OpD.t rfl)|(apply SY.eqlB;(exact oD);(exact oD);exact eqBB)|(apply Zn;(exact oD);(exact oD);exact ZCF)|(apply Zx;(exact oD);(with_reducible rfl);(exact oD))|(apply Z2;(exact oD);(with_reducible rfl);(exact oD))|(apply SY.extract;(exact oD);rfl)|(apply SY.box;(exact oD);(exact hD))|fail);all_goals infer_instance))));dsimp only [ZA,z0,z1])|((first|refine Zl rfl rfl rfl (fun h=>?_) (fun h=>?_)|refine Zk rfl rfl rfl (fun h=>?_) (fun h=>?_)|refine Zj rfl rfl rfl (fun h=>?_) (fun h=>?_)) <;> (first|(exfalso;first|omega|contradiction)|(dsimp only [z0,z1])))|(apply WC.condT;(exact oD);(with_reducible rfl))|(apply ZK;(exact oD);(with_reducible rfl))|(apply ZE;(exact oD);all_goals (intro h;try exact xD))|(apply WC.condN;(exact oD);all_goals (intro h;try exact xD))|(apply WC.condNB;(exact oD);all_goals (intro h;try exact xD))|(apply WC.cond;(exact oD);all_goals (intro h;try exact xD))|refine WC.skip ?_|refine WC.ret ?_|refine ThenD.n ?_|refine ThenD.r ?_));all_goals (first|refine WC.id ?_|refine WL.id ?_|((repeat clear hK);(repeat clear Kx))))
      all_goals first|(refine ⟨trivial,_,rfl,?_⟩;(first|exact fD|refine FinD.i ?_|refine FinD.b ?_|refine ZAQ (.head _) ?_|refine ZBC (.head _) ?_|refine ZAE (by decide) ?_|refine FinD.nilE ?_|refine ZCV ?_))|(exfalso;first|contradiction|omega)
    ·rw [z] at d1
     rw [show ((k.toNat % 2:Nat):Int)=0 by omega] at hrem heq
     generalize ZKI l=A at *
     obtain ⟨⟨F,V,C⟩,E⟩:=A
     simp only at z d1
     subst z
     (refine ZH Tryz.func3 rfl rfl ?_;simp only [Tryz.ntmps3,List.length_cons,List.length_nil,Nat.reduceAdd,Nat.reduceSub,List.replicate_succ,List.replicate_zero,List.cons_append,List.nil_append])
     ((repeat' (first|(apply WL.opN;exact yF;dsimp only [ZA,z0,z1])|refine WL.nil ?_|refine ZC fun Kx hK=>?_|(refine hK _ _ ?_;clear hK)|(refine Kont.skip ?_;clear hK)|refine WC.region ?_ |  (apply ZS;(focus (apply ZEE;exact ZBQ rfl rfl rfl));dsimp only [ZA,z0,z1]) |  (refine WL.alloc ZKA (ZA0 rfl rfl rfl) fun bq=>?_;dsimp only [ZA,z0,z1]) |  (refine ZG ZDp rfl (OpD.t rfl) ZAd ?_;dsimp only [ZA,z0,z1])|(apply WL.alloc;(first|exact tzV|exact tzC);(first|exact ZN rfl|exact ZW|exact ZX rfl);(intro _;dsimp only [ZA,z0,z1]))|(apply ZG;(exact tD);rfl;(exact oD);(exact hD);dsimp only [ZA,z0,z1])|(apply ZT;(exact tD);rfl;(exact oD);(exact hD);dsimp only [ZA,z0,z1])|(apply ZU;(exact tD);rfl;(exact oD);(exact hD);dsimp only [ZA,z0,z1])|(apply ZS;(focus (first|exact wN|(apply SYG.yes;(exact wY);((first|(exact SY.box (OpD.t rfl) (fun I w v h=>ZBM I w v (ZAh I w v h)))|(apply SY.load;exact tyC;exact OpD.t rfl)|(apply SY.load;exact ZDp;exact OpD.t rfl)|(apply SY.call c0 Tryz.call4;exact ArgsD.cons (OpD.tle rfl ZAh) ArgsD.nil)|(apply SY.call c1 Tryz.call5;exact ArgsD.cons (OpD.tle rfl ZAh) (ArgsD.cons OpD.i ArgsD.nil))|(exact ZCN (d:=dX (.int .u8 0)) (OpD.t rfl) OpD.x (hrem _) (fun _ _=>rfl))|(exact ZCN (d:=dB true) (OpD.t rfl) OpD.x (heq _) (fun _ _=>rfl))|(apply SY.call (d1) Tryz.call7;(exact aD))|(apply SY.call (ca) Tryz.call6;(exact aD))|((first|apply SY.move|apply SY.assign|apply SY.eql|apply SY.neq|apply SY.not) <;> (exact oD))|((first|apply SY.add|apply SY.rem) <;> first|exact oD|omega)|(apply SY.load;(exact tD);(exact oD))|(apply ZJ;(exact tD);(exact oD);(exact (by simp)))|(apply SY.len;(exact oD);(exact nD);(exact uD))|(apply ZV;exact OpD.t rfl;(first|exact .head _|exact .tail _ (.head _));(exact uD))|(apply Zf;exact OpD.t rfl;(first|exact .head _|exact .tail _ (.head _));(exact uD))|(first|(apply SY.fld0 vxT <;> (exact oD))|(apply SY.fld1 vxT <;> (exact oD))|(apply ZC7 vxT <;> (exact oD))|(apply Zm vxT <;> (exact oD)))|(apply Zb ZAA;exact OpD.t rfl)|(apply SY.eqlB;(exact oD);(exact oD);exact eqBB)|(apply Zn;(exact oD);(exact oD);exact ZCF)|(apply Zx;(exact oD);(with_reducible rfl);(exact oD))|(apply Z2;(exact oD);(with_reducible rfl);(exact oD))|(apply SY.extract;(exact oD);rfl)|(apply SY.box;(exact oD);(exact hD))|fail);all_goals infer_instance))));dsimp only [ZA,z0,z1])|((first|refine Zl rfl rfl rfl (fun h=>?_) (fun h=>?_)|refine Zk rfl rfl rfl (fun h=>?_) (fun h=>?_)|refine Zj rfl rfl rfl (fun h=>?_) (fun h=>?_)) <;> (first|(exfalso;first|omega|contradiction)|(dsimp only [z0,z1])))|(apply WC.condT;(exact oD);(with_reducible rfl))|(apply ZK;(exact oD);(with_reducible rfl))|(apply ZE;(exact oD);all_goals (intro h;try exact xD))|(apply WC.condN;(exact oD);all_goals (intro h;try exact xD))|(apply WC.condNB;(exact oD);all_goals (intro h;try exact xD))|(apply WC.cond;(exact oD);all_goals (intro h;try exact xD))|refine WC.skip ?_|refine WC.ret ?_|refine ThenD.n ?_|refine ThenD.r ?_));all_goals (first|refine WC.id ?_|refine WL.id ?_|((repeat clear hK);(repeat clear Kx))))
     all_goals first|(refine ⟨trivial,_,rfl,?_⟩;(first|exact fD|refine FinD.i ?_|refine FinD.b ?_|refine ZAQ (.head _) ?_|refine ZBC (.head _) ?_|refine ZAE (by decide) ?_|refine FinD.nilE ?_|refine ZCV ?_))|(exfalso;first|contradiction|omega)
   ·clear d1
    obtain ⟨z,H⟩:=ZQn h0 hl h3
    have h1e:(ZGw l).2=0:=H.eul.2
    rw [h1e] at e1
    generalize ZP7 l=A at *
    obtain ⟨⟨F,V,C⟩,E⟩:=A
    simp only at z H d3
    subst z
    obtain ⟨a2,e2,s1,g2,m2,hf,hz,h39⟩:=ZL3 H
    clear H
    rw [show ((k.toNat % 2:Nat):Int)=1 by omega] at hrem heq
    generalize ZBK F=cF at *
    generalize ZBK l=cl at *
    generalize (ZGw l).1=X at *
    generalize ZMx cl=M at *
    generalize ZDo l=p at *
    generalize ZFU l=D at *
    by_cases hn:0<l.length
    ·have m1:=m1 hn
     have m2:=m2 hn
     (refine ZH Tryz.func3 rfl rfl ?_;simp only [Tryz.ntmps3,List.length_cons,List.length_nil,Nat.reduceAdd,Nat.reduceSub,List.replicate_succ,List.replicate_zero,List.cons_append,List.nil_append])
     ((repeat' (first|(apply WL.opN;exact yF;dsimp only [ZA,z0,z1])|refine WL.nil ?_|refine ZC fun Kx hK=>?_|(refine hK _ _ ?_;clear hK)|(refine Kont.skip ?_;clear hK)|refine WC.region ?_ |  (apply ZS;(focus (apply ZEE;exact ZBQ rfl rfl rfl));dsimp only [ZA,z0,z1]) |  (refine WL.alloc ZKA (ZA0 rfl rfl rfl) fun bq=>?_;dsimp only [ZA,z0,z1]) |  (refine ZG ZDp rfl (OpD.t rfl) ZAd ?_;dsimp only [ZA,z0,z1])|(apply WL.alloc;(first|exact tzV|exact tzC);(first|exact ZN rfl|exact ZW|exact ZX rfl);(intro _;dsimp only [ZA,z0,z1]))|(apply ZG;(exact tD);rfl;(exact oD);(exact hD);dsimp only [ZA,z0,z1])|(apply ZT;(exact tD);rfl;(exact oD);(exact hD);dsimp only [ZA,z0,z1])|(apply ZU;(exact tD);rfl;(exact oD);(exact hD);dsimp only [ZA,z0,z1])|(apply ZS;(focus (first|exact wN|(apply SYG.yes;(exact wY);((first|(exact SY.box (OpD.t rfl) (fun I w v h=>ZBM I w v (ZAh I w v h)))|(apply SY.load;exact tyC;exact OpD.t rfl)|(apply SY.load;exact ZDp;exact OpD.t rfl)|(apply SY.call c0 Tryz.call4;exact ArgsD.cons (OpD.tle rfl ZAh) ArgsD.nil)|(apply SY.call c1 Tryz.call5;exact ArgsD.cons (OpD.tle rfl ZAh) (ArgsD.cons OpD.i ArgsD.nil))|(exact ZCN (d:=dX (.int .u8 1)) (OpD.t rfl) OpD.x (hrem _) (fun _ _=>rfl))|(exact ZCN (d:=dB false) (OpD.t rfl) OpD.x (heq _) (fun _ _=>rfl))|(apply SY.call (d3) Tryz.call8;(exact aD))|(exact ZB2 ZCi (OpD.t rfl) ZCy rfl rfl)|(exact ZBN tyC (OpD.t rfl))|(exact ZFm (OpD.t rfl) (OpD.t rfl))|(apply SY.call a1 Tryz.call9;exact ArgsD.cons (OpD.tle rfl ZAh) ArgsD.nil)|(apply SY.call (a2) Tryz.call9;exact ArgsD.cons (OpD.t rfl) (ArgsD.nil))|(apply SY.call e1 Tryz.call10;exact ArgsD.cons (OpD.tle rfl ZAh) ArgsD.nil)|(apply SY.call (e2) Tryz.call10;exact ArgsD.cons (OpD.t rfl) (ArgsD.nil))|(apply SY.call s1 Tryz.call11;exact ArgsD.cons (OpD.tle rfl ZAh) (ArgsD.cons (OpD.t rfl) ArgsD.nil))|(apply SY.call g1 Tryz.call12;exact ArgsD.cons (OpD.tle rfl ZAh) ArgsD.nil)|(apply SY.call (g2) Tryz.call12;exact ArgsD.cons (OpD.t rfl) (ArgsD.nil))|(apply SY.call (m1) Tryz.call13;exact ArgsD.cons (OpD.t rfl) (ArgsD.nil))|(apply SY.call (m2) Tryz.call13;exact ArgsD.cons (OpD.t rfl) (ArgsD.nil))|(apply SY.call (ca) Tryz.call6;(exact aD))|((first|apply SY.move|apply SY.assign|apply SY.eql|apply SY.neq|apply SY.not) <;> (exact oD))|((first|apply SY.add|apply SY.rem) <;> first|exact oD|omega)|(apply SY.load;(exact tD);(exact oD))|(apply ZJ;(exact tD);(exact oD);(exact (by simp)))|(apply SY.len;(exact oD);(exact nD);(exact uD))|(apply ZV;exact OpD.t rfl;(first|exact .head _|exact .tail _ (.head _));(exact uD))|(apply Zf;exact OpD.t rfl;(first|exact .head _|exact .tail _ (.head _));(exact uD))|(first|(apply SY.fld0 vxT <;> (exact oD))|(apply SY.fld1 vxT <;> (exact oD))|(apply ZC7 vxT <;> (exact oD))|(apply Zm vxT <;> (exact oD)))|(apply Zb ZAA;exact OpD.t rfl)|(apply SY.eqlB;(exact oD);(exact oD);exact eqBB)|(apply Zn;(exact oD);(exact oD);exact ZCF)|(apply Zx;(exact oD);(with_reducible rfl);(exact oD))|(apply Z2;(exact oD);(with_reducible rfl);(exact oD))|(apply SY.extract;(exact oD);rfl)|(apply SY.box;(exact oD);(exact hD))|fail);all_goals infer_instance))));dsimp only [ZA,z0,z1])|((first|refine Zl rfl rfl rfl (fun h=>?_) (fun h=>?_)|refine Zk rfl rfl rfl (fun h=>?_) (fun h=>?_)|refine Zj rfl rfl rfl (fun h=>?_) (fun h=>?_)) <;> (first|(exfalso;first|omega|contradiction)|(dsimp only [z0,z1])))|(apply WC.condT;(exact oD);(with_reducible rfl))|(apply ZK;(exact oD);(with_reducible rfl))|(apply ZE;(exact oD);all_goals (intro h;try exact xD))|(apply WC.condN;(exact oD);all_goals (intro h;try exact xD))|(apply WC.condNB;(exact oD);all_goals (intro h;try exact xD))|(apply WC.cond;(exact oD);all_goals (intro h;try exact xD))|refine WC.skip ?_|refine WC.ret ?_|refine ThenD.n ?_|refine ThenD.r ?_));all_goals (first|refine WC.id ?_|refine WL.id ?_|((repeat clear hK);(repeat clear Kx))))
     all_goals first|(refine ⟨trivial,_,rfl,?_⟩;(first|exact fD|refine FinD.i ?_|refine FinD.b ?_|refine ZAQ (.head _) ?_|refine ZBC (.head _) ?_|refine ZAE (by decide) ?_|refine FinD.nilE ?_|refine ZCV ?_))|(exfalso;first|contradiction|omega)
    ·clear m1 m2
     (refine ZH Tryz.func3 rfl rfl ?_;simp only [Tryz.ntmps3,List.length_cons,List.length_nil,Nat.reduceAdd,Nat.reduceSub,List.replicate_succ,List.replicate_zero,List.cons_append,List.nil_append])
     ((repeat' (first|(apply WL.opN;exact yF;dsimp only [ZA,z0,z1])|refine WL.nil ?_|refine ZC fun Kx hK=>?_|(refine hK _ _ ?_;clear hK)|(refine Kont.skip ?_;clear hK)|refine WC.region ?_ |  (apply ZS;(focus (apply ZEE;exact ZBQ rfl rfl rfl));dsimp only [ZA,z0,z1]) |  (refine WL.alloc ZKA (ZA0 rfl rfl rfl) fun bq=>?_;dsimp only [ZA,z0,z1]) |  (refine ZG ZDp rfl (OpD.t rfl) ZAd ?_;dsimp only [ZA,z0,z1])|(apply WL.alloc;(first|exact tzV|exact tzC);(first|exact ZN rfl|exact ZW|exact ZX rfl);(intro _;dsimp only [ZA,z0,z1]))|(apply ZG;(exact tD);rfl;(exact oD);(exact hD);dsimp only [ZA,z0,z1])|(apply ZT;(exact tD);rfl;(exact oD);(exact hD);dsimp only [ZA,z0,z1])|(apply ZU;(exact tD);rfl;(exact oD);(exact hD);dsimp only [ZA,z0,z1])|(apply ZS;(focus (first|exact wN|(apply SYG.yes;(exact wY);((first|(exact SY.box (OpD.t rfl) (fun I w v h=>ZBM I w v (ZAh I w v h)))|(apply SY.load;exact tyC;exact OpD.t rfl)|(apply SY.load;exact ZDp;exact OpD.t rfl)|(apply SY.call c0 Tryz.call4;exact ArgsD.cons (OpD.tle rfl ZAh) ArgsD.nil)|(apply SY.call c1 Tryz.call5;exact ArgsD.cons (OpD.tle rfl ZAh) (ArgsD.cons OpD.i ArgsD.nil))|(exact ZCN (d:=dX (.int .u8 1)) (OpD.t rfl) OpD.x (hrem _) (fun _ _=>rfl))|(exact ZCN (d:=dB false) (OpD.t rfl) OpD.x (heq _) (fun _ _=>rfl))|(apply SY.call (d3) Tryz.call8;(exact aD))|(exact ZB2 ZCi (OpD.t rfl) ZCy rfl rfl)|(exact ZBN tyC (OpD.t rfl))|(exact ZFm (OpD.t rfl) (OpD.t rfl))|(apply SY.call a1 Tryz.call9;exact ArgsD.cons (OpD.tle rfl ZAh) ArgsD.nil)|(apply SY.call (a2) Tryz.call9;exact ArgsD.cons (OpD.t rfl) (ArgsD.nil))|(apply SY.call e1 Tryz.call10;exact ArgsD.cons (OpD.tle rfl ZAh) ArgsD.nil)|(apply SY.call (e2) Tryz.call10;exact ArgsD.cons (OpD.t rfl) (ArgsD.nil))|(apply SY.call s1 Tryz.call11;exact ArgsD.cons (OpD.tle rfl ZAh) (ArgsD.cons (OpD.t rfl) ArgsD.nil))|(apply SY.call g1 Tryz.call12;exact ArgsD.cons (OpD.tle rfl ZAh) ArgsD.nil)|(apply SY.call (g2) Tryz.call12;exact ArgsD.cons (OpD.t rfl) (ArgsD.nil))|(apply SY.call (ca) Tryz.call6;(exact aD))|((first|apply SY.move|apply SY.assign|apply SY.eql|apply SY.neq|apply SY.not) <;> (exact oD))|((first|apply SY.add|apply SY.rem) <;> first|exact oD|omega)|(apply SY.load;(exact tD);(exact oD))|(apply ZJ;(exact tD);(exact oD);(exact (by simp)))|(apply SY.len;(exact oD);(exact nD);(exact uD))|(apply ZV;exact OpD.t rfl;(first|exact .head _|exact .tail _ (.head _));(exact uD))|(apply Zf;exact OpD.t rfl;(first|exact .head _|exact .tail _ (.head _));(exact uD))|(first|(apply SY.fld0 vxT <;> (exact oD))|(apply SY.fld1 vxT <;> (exact oD))|(apply ZC7 vxT <;> (exact oD))|(apply Zm vxT <;> (exact oD)))|(apply Zb ZAA;exact OpD.t rfl)|(apply SY.eqlB;(exact oD);(exact oD);exact eqBB)|(apply Zn;(exact oD);(exact oD);exact ZCF)|(apply Zx;(exact oD);(with_reducible rfl);(exact oD))|(apply Z2;(exact oD);(with_reducible rfl);(exact oD))|(apply SY.extract;(exact oD);rfl)|(apply SY.box;(exact oD);(exact hD))|fail);all_goals infer_instance))));dsimp only [ZA,z0,z1])|((first|refine Zl rfl rfl rfl (fun h=>?_) (fun h=>?_)|refine Zk rfl rfl rfl (fun h=>?_) (fun h=>?_)|refine Zj rfl rfl rfl (fun h=>?_) (fun h=>?_)) <;> (first|(exfalso;first|omega|contradiction)|(dsimp only [z0,z1])))|(apply WC.condT;(exact oD);(with_reducible rfl))|(apply ZK;(exact oD);(with_reducible rfl))|(apply ZE;(exact oD);all_goals (intro h;try exact xD))|(apply WC.condN;(exact oD);all_goals (intro h;try exact xD))|(apply WC.condNB;(exact oD);all_goals (intro h;try exact xD))|(apply WC.cond;(exact oD);all_goals (intro h;try exact xD))|refine WC.skip ?_|refine WC.ret ?_|refine ThenD.n ?_|refine ThenD.r ?_));all_goals (first|refine WC.id ?_|refine WL.id ?_|((repeat clear hK);(repeat clear Kx))))
     all_goals first|(refine ⟨trivial,_,rfl,?_⟩;(first|exact fD|refine FinD.i ?_|refine FinD.b ?_|refine ZAQ (.head _) ?_|refine ZBC (.head _) ?_|refine ZAE (by decide) ?_|refine FinD.nilE ?_|refine ZCV ?_))|(exfalso;first|contradiction|omega)
  ·rw [Bool.eq_false_iff.2 hb] at c1
   (refine ZH Tryz.func3 rfl rfl ?_;simp only [Tryz.ntmps3,List.length_cons,List.length_nil,Nat.reduceAdd,Nat.reduceSub,List.replicate_succ,List.replicate_zero,List.cons_append,List.nil_append])
   ((repeat' (first|(apply WL.opN;exact yF;dsimp only [ZA,z0,z1])|refine WL.nil ?_|refine ZC fun Kx hK=>?_|(refine hK _ _ ?_;clear hK)|(refine Kont.skip ?_;clear hK)|refine WC.region ?_ |  (apply ZS;(focus (apply ZEE;exact ZBQ rfl rfl rfl));dsimp only [ZA,z0,z1])|(apply WL.alloc;(first|exact tzV|exact tzC);(first|exact ZN rfl|exact ZW|exact ZX rfl);(intro _;dsimp only [ZA,z0,z1]))|(apply ZG;(exact tD);rfl;(exact oD);(exact hD);dsimp only [ZA,z0,z1])|(apply ZT;(exact tD);rfl;(exact oD);(exact hD);dsimp only [ZA,z0,z1])|(apply ZU;(exact tD);rfl;(exact oD);(exact hD);dsimp only [ZA,z0,z1])|(apply ZS;(focus (first|exact wN|(apply SYG.yes;(exact wY);((first|(exact SY.box (OpD.t rfl) (fun I w v h=>ZBM I w v (ZAh I w v h)))|(apply SY.load;exact tyC;exact OpD.t rfl)|(apply SY.call c0 Tryz.call4;exact ArgsD.cons (OpD.tle rfl ZAh) ArgsD.nil)|(apply SY.call c1 Tryz.call5;exact ArgsD.cons (OpD.tle rfl ZAh) (ArgsD.cons OpD.i ArgsD.nil))|(apply SY.call (ca) Tryz.call6;(exact aD))|((first|apply SY.move|apply SY.assign|apply SY.eql|apply SY.neq|apply SY.not) <;> (exact oD))|((first|apply SY.add|apply SY.rem) <;> first|exact oD|omega)|(apply SY.load;(exact tD);(exact oD))|(apply ZJ;(exact tD);(exact oD);(exact (by simp)))|(apply SY.len;(exact oD);(exact nD);(exact uD))|(apply ZV;exact OpD.t rfl;(first|exact .head _|exact .tail _ (.head _));(exact uD))|(apply Zf;exact OpD.t rfl;(first|exact .head _|exact .tail _ (.head _));(exact uD))|(first|(apply SY.fld0 vxT <;> (exact oD))|(apply SY.fld1 vxT <;> (exact oD))|(apply ZC7 vxT <;> (exact oD))|(apply Zm vxT <;> (exact oD)))|(apply Zb ZAA;exact OpD.t rfl)|(apply SY.eqlB;(exact oD);(exact oD);exact eqBB)|(apply Zn;(exact oD);(exact oD);exact ZCF)|(apply Zx;(exact oD);(with_reducible rfl);(exact oD))|(apply Z2;(exact oD);(with_reducible rfl);(exact oD))|(apply SY.extract;(exact oD);rfl)|(apply SY.box;(exact oD);(exact hD))|fail);all_goals infer_instance))));dsimp only [ZA,z0,z1])|((first|refine Zl rfl rfl rfl (fun h=>?_) (fun h=>?_)|refine Zk rfl rfl rfl (fun h=>?_) (fun h=>?_)|refine Zj rfl rfl rfl (fun h=>?_) (fun h=>?_)) <;> (first|(exfalso;first|omega|contradiction)|(dsimp only [z0,z1])))|(apply WC.condT;(exact oD);(with_reducible rfl))|(apply ZK;(exact oD);(with_reducible rfl))|(apply ZE;(exact oD);all_goals (intro h;try exact xD))|(apply WC.condN;(exact oD);all_goals (intro h;try exact xD))|(apply WC.condNB;(exact oD);all_goals (intro h;try exact xD))|(apply WC.cond;(exact oD);all_goals (intro h;try exact xD))|refine WC.skip ?_|refine WC.ret ?_|refine ThenD.n ?_|refine ThenD.r ?_));all_goals (first|refine WC.id ?_|refine WL.id ?_|((repeat clear hK);(repeat clear Kx))))
   all_goals first|(refine ⟨trivial,_,rfl,?_⟩;(first|exact fD|refine FinD.i ?_|refine FinD.b ?_|refine ZAQ (.head _) ?_|refine ZBC (.head _) ?_|refine ZAE (by decide) ?_|refine FinD.nilE ?_|refine ZCV ?_))|(exfalso;first|contradiction|omega)
 ·(refine ZH Tryz.func3 rfl rfl ?_;simp only [Tryz.ntmps3,List.length_cons,List.length_nil,Nat.reduceAdd,Nat.reduceSub,List.replicate_succ,List.replicate_zero,List.cons_append,List.nil_append])
  ((repeat' (first|(apply WL.opN;exact yF;dsimp only [ZA,z0,z1])|refine WL.nil ?_|refine ZC fun Kx hK=>?_|(refine hK _ _ ?_;clear hK)|(refine Kont.skip ?_;clear hK)|refine WC.region ?_ |  (apply ZS;(focus (apply ZEE;exact ZBQ rfl rfl rfl));dsimp only [ZA,z0,z1])|(apply WL.alloc;(first|exact tzV|exact tzC);(first|exact ZN rfl|exact ZW|exact ZX rfl);(intro _;dsimp only [ZA,z0,z1]))|(apply ZG;(exact tD);rfl;(exact oD);(exact hD);dsimp only [ZA,z0,z1])|(apply ZT;(exact tD);rfl;(exact oD);(exact hD);dsimp only [ZA,z0,z1])|(apply ZU;(exact tD);rfl;(exact oD);(exact hD);dsimp only [ZA,z0,z1])|(apply ZS;(focus (first|exact wN|(apply SYG.yes;(exact wY);((first|(exact SY.box (OpD.t rfl) (fun I w v h=>ZBM I w v (ZAh I w v h)))|(apply SY.load;exact tyC;exact OpD.t rfl)|(apply SY.call c0 Tryz.call4;exact ArgsD.cons (OpD.tle rfl ZAh) ArgsD.nil)|(apply SY.call (ca) Tryz.call6;(exact aD))|((first|apply SY.move|apply SY.assign|apply SY.eql|apply SY.neq|apply SY.not) <;> (exact oD))|((first|apply SY.add|apply SY.rem) <;> first|exact oD|omega)|(apply SY.load;(exact tD);(exact oD))|(apply ZJ;(exact tD);(exact oD);(exact (by simp)))|(apply SY.len;(exact oD);(exact nD);(exact uD))|(apply ZV;exact OpD.t rfl;(first|exact .head _|exact .tail _ (.head _));(exact uD))|(apply Zf;exact OpD.t rfl;(first|exact .head _|exact .tail _ (.head _));(exact uD))|(first|(apply SY.fld0 vxT <;> (exact oD))|(apply SY.fld1 vxT <;> (exact oD))|(apply ZC7 vxT <;> (exact oD))|(apply Zm vxT <;> (exact oD)))|(apply Zb ZAA;exact OpD.t rfl)|(apply SY.eqlB;(exact oD);(exact oD);exact eqBB)|(apply Zn;(exact oD);(exact oD);exact ZCF)|(apply Zx;(exact oD);(with_reducible rfl);(exact oD))|(apply Z2;(exact oD);(with_reducible rfl);(exact oD))|(apply SY.extract;(exact oD);rfl)|(apply SY.box;(exact oD);(exact hD))|fail);all_goals infer_instance))));dsimp only [ZA,z0,z1])|((first|refine Zl rfl rfl rfl (fun h=>?_) (fun h=>?_)|refine Zk rfl rfl rfl (fun h=>?_) (fun h=>?_)|refine Zj rfl rfl rfl (fun h=>?_) (fun h=>?_)) <;> (first|(exfalso;first|omega|contradiction)|(dsimp only [z0,z1])))|(apply WC.condT;(exact oD);(with_reducible rfl))|(apply ZK;(exact oD);(with_reducible rfl))|(apply ZE;(exact oD);all_goals (intro h;try exact xD))|(apply WC.condN;(exact oD);all_goals (intro h;try exact xD))|(apply WC.condNB;(exact oD);all_goals (intro h;try exact xD))|(apply WC.cond;(exact oD);all_goals (intro h;try exact xD))|refine WC.skip ?_|refine WC.ret ?_|refine ThenD.n ?_|refine ThenD.r ?_));all_goals (first|refine WC.id ?_|refine WL.id ?_|((repeat clear hK);(repeat clear Kx))))
  all_goals first|(refine ⟨trivial,_,rfl,?_⟩;(first|exact fD|refine FinD.i ?_|refine FinD.b ?_|refine ZAQ (.head _) ?_|refine ZBC (.head _) ?_|refine ZAE (by decide) ?_|refine FinD.nilE ?_|refine ZCV ?_))|(exfalso;first|contradiction|omega)
end
end Go.Proofs.YtekiljakcngcoaaGreatDoor
