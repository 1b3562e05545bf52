/- Part 46: walks by contracts, and plain laws. -/
import Derived.Test.YtofkoleingbbpaaGreatDoorVx45
set_option linter.unusedVariables false
set_option linter.unusedSimpArgs false
set_option linter.unusedSectionVars false
set_option maxRecDepth 100000
set_option maxHeartbeats 4000000
namespace Go.Proofs.YtofkoleingbbpaaGreatDoor
section
open Go.RowKit
abbrev eA:List Int:=[1,3,2,3]
abbrev eW:List Int:=[1,3,2,7]
abbrev eL:List Cx:=[[[(0,1)]],eF]
theorem x_spr:ZS4 eF eV eC eB=((eV,eA),0):=by decide +kernel
theorem ZTC:ZO9 eF eV eA=0:=by decide +kernel
theorem ZQp:ZO9 eF eV eW=0:=by decide +kernel
theorem ZTD:ZH2 eF (Zl eV eA) 2=some eL:=by decide +kernel
theorem ZR4:ZH2 eF (Zl eV eW) 2=none:=by decide +kernel
theorem x_rb3:(ZFq eF eV [1,1,2,2]).1.length=3/\(ZFq eF eV [1,1,2,2]).2=0:=by decide +kernel
theorem x_rb1:ZFq eF eV [1,1,2,1]=([[(0,3),(1,2)]],0):=by decide +kernel
theorem ZTF:ZDM eV eA eV [1,1,2,1]=(true,0):=by decide +kernel
theorem ZTE:ZRR eF eL=0:=by decide +kernel
theorem x_ver:ZTA eF (Zl eV eA) eL=0:=by decide +kernel
theorem ZTG:ZTA eF (Zl eV eW) eL=18:=by decide +kernel
theorem ZQE:ZGL eF≤400:=by decide
theorem ZHT:ZE0 eF:=by unfold ZE0;decide
theorem ZQy {ops:Array Oper} {hp:List HObj} {fr:List Dat} {dst:Option Tmp} {ty:TypeId} {ps:String} {af:Array Edge} {g:Option (Nat × Bool)} {x y:Operand} {vs:List Vx} {A:List Int} (hx:OpD fr x (dS ZJ vs)) (hy:OpD fr y (dS ZBD A)):SY Tryz.prog ops hp ⟨dst,.build 25 #[(0,x),(1,y)],ty,ps,af,g⟩ fr (dS Lab (vs,A)):=SY.val fun {I w a} ho=>by
 have h3:ArrK 2 RV I w (a.eval x) vs:=hx.get (by simp [Op.operands]) ho
 have h2:ZBD I w (a.eval y) A:=hy.get (by simp [Op.operands]) ho
 have h2':=h2
 obtain ⟨ad,c,hv,_⟩:=h2'
 have h3':=h3
 obtain ⟨ad2,c2,hv2,_⟩:=h3'
 have hm:∀ ad n c ad2 n2 c2 w,(Instr.build 25 #[(0,.slice ad2 n2 c2),(1,.slice ad n c)]).run Tryz.prog w = .ok (.agg #[.slice ad2 n2 c2,.slice ad n c]) w:=by intro ad n c ad2 n2 c2 w;go_simp
 refine ⟨.agg #[.slice ad2 vs.length c2,.slice ad A.length c],?_,_,_,rfl,rfl,rfl,?_,?_⟩
 ·unfold execOp
  simp only [List.map_toArray,List.map_cons,List.map_nil,hv,hv2,Sem.run_bind,hm,Result.andThen_ok,Sem.run_pure]
 ·rw [hv2] at h3;exact h3
 ·rw [hv] at h2;exact h2
theorem ZBA {p:Lb}:(dS Lab p).Shape 2 true:=fun _ _ _ h=>by
 obtain ⟨u,u',rfl,h0,h1,_,_⟩:=h
 exact ⟨[u,u'],rfl,by decide,fun c hc=>by
  simp only [List.mem_cons,List.not_mem_nil,or_false] at hc
  rcases hc with rfl|rfl <;> assumption,rfl,rfl⟩
section
variable {P:Program} {ops:Array Oper} {hp:List HObj} {fr:List Dat} {dst:Option Tmp} {ty:TypeId} {ps:String} {af:Array Edge} {g:Option (Nat × Bool)} {T T2:TypeId}
theorem ZLv {p q:Int} {b:Bool} {x y:Operand} (h:decide (p≠q)=b) (hx:OpD fr x (dI p)) (hy:OpD fr y (dI q)):SY P ops hp ⟨dst,.binOp .neq T x y T2,ty,ps,af,g⟩ fr (dB b):=by
 have:=SY.neq (P:=P) (ops:=ops) (hp:=hp) (dst:=dst) (ty:=ty) (ps:=ps) (af:=af) (g:=g) (T:=T) (T2:=T2) hx hy
 have e:decide (p≠q) = !decide (p=q):=by simp
 first|rwa [h] at this|(rw [<- e,h] at this;exact this)
theorem ZGU {p q:Int} {b:Bool} {x y:Operand} (h:decide (p=q)=b) (hx:OpD fr x (dI p)) (hy:OpD fr y (dI q)):SY P ops hp ⟨dst,.binOp .eql T x y T2,ty,ps,af,g⟩ fr (dB b):=by
 have:=SY.eql (P:=P) (ops:=ops) (hp:=hp) (dst:=dst) (ty:=ty) (ps:=ps) (af:=af) (g:=g) (T:=T) (T2:=T2) hx hy
 rwa [h] at this
theorem ZL0 {n l:Nat} {x y:Operand} {t e:TypeId} {bytes:Nat} {z:Value} {ag:Bool} (E:ElT P t e n z bytes ag) {α:Type} {R:Rel α} {_gR:Good R} {xs ys:List α} (he:xs.take l=ys) (h1:l≤xs.length) (hx:OpD fr x (dS (ArrK n R) xs)) (hy:OpD fr y (dI (l:Int))):SY P ops hp ⟨dst,.slice t x none (some y) none,ty,ps,af,g⟩ fr (dS (ArrK n R) ys):=he ▸ ZJa (_gR:=_gR) E hx hy l rfl h1
theorem ZLy {l h:Nat} {x y y2:Operand} {t e:TypeId} {bytes:Nat} {z:Value} {ag:Bool} (E:ElT P t e 1 z bytes ag) {α:Type} {R:Rel α} {_gR:Good R} {xs ys:List α} (he:(xs.drop l).take (h-l)=ys) (h1:l≤h) (h2:h≤xs.length) (hx:OpD fr x (dS (Arr R) xs)) (hy:OpD fr y (dI (l:Int))) (hy2:OpD fr y2 (dI (h:Int))):SY P ops hp ⟨dst,.slice t x (some y) (some y2) none,ty,ps,af,g⟩ fr (dS (Arr R) ys):=he ▸ ZHk (_gR:=_gR) E hx (ZCl hy rfl) (ZCl hy2 rfl) h1 h2
theorem ZOY {x y:Operand} (hx:OpD fr x (dI 0)) (hy:OpD fr y (dI 0)):SY P ops hp ⟨dst,.binOp .add T x y T2,ty,ps,af,g⟩ fr (dI 0):=SY.add hx hy (by omega)
end
theorem ZRw:StrT Tryz.prog 29 1:=⟨fun b off i w hi=>by
 obtain rfl:i=0:=by omega
 go_simp⟩

theorem ZMy (a b:List Int):Fn Tryz.prog 34 [dS ZBD a,dS ZBD b] (dB (decide (a=b))):=by
 (refine ZE Tryz.func34 rfl rfl ?_;simp only [Tryz.ntmps34,List.length_cons,List.length_nil,Nat.reduceAdd,Nat.reduceSub,List.replicate_succ,List.replicate_zero,List.cons_append,List.nil_append])
 by_cases hl:a.length=b.length
 ·have hlI:¬ (a.length:Int)≠(b.length:Int):=by omega
  (repeat' (first|((first|apply WL.opN|apply WD.opN);exact yF;dsimp only [ZB,z0,z1])|refine WL.nil ?_|refine ZA fun Kx hK=>?_|(refine hK _ _ ?_;clear hK)|refine WC.region ?_|((first|apply WL.opN|apply WD.opN);(focus ((first|((first|apply SY.move|apply SY.assign|apply SY.lss|apply SY.neq) <;> (exact oD))|(apply SY.len;(exact oD);(exact nD);(exact uD))|fail);all_goals infer_instance));dsimp only [ZB,z0,z1])|(apply ZG;(exact oD);all_goals (intro h;try exact xD))|refine WC.skip ?_|refine WC.block ?_))
  all_goals try (exfalso;first|contradiction|omega)
  (first|refine ZQ (t:=0) rfl ZEX fun hl0=>?_|refine ZQ (t:=0) rfl ZD7 fun hl0=>?_|refine ZQ (t:=0) rfl ZLZ fun hl0=>?_);simp only [maxLen] at hl0
  (refine WC.loopU (X:=Nat) (fun k=>[(13,dI (k:Int)),(4,dA),(5,dA),(14,dA),(15,dA),(16,dA),(17,dA),(18,dA),(19,dA),(20,dA),(21,dA),(22,dA),(23,dA),(24,dA),(25,dA)]) (fun k=>[]) (fun k=>a.length-k) (fun k=>k≤a.length/\∀ j (hj:j<k) (h1:j<a.length) (h2:j<b.length),a[j]=b[j]) 0 ?start ?frame0 ?objs0 ?round)
  case start=>exact ⟨Nat.zero_le _,fun j hj=>absurd hj (Nat.not_lt_zero j)⟩
  case frame0=>((try dsimp only [ZK,z0,z1]);repeat (first|exact LeF.nil|refine ZD (k:=?_)))
  case objs0=>rfl
  case round =>
   rintro k ⟨h1,h2⟩
   dsimp only [ZK,z0,z1]
   by_cases hk:k<a.length
   ·have hlt:(k:Int)<(a.length:Int):=by omega
    have hkb:k<b.length:=by omega
    by_cases he:a[k]=b[k]
    ·have heI:¬ a[k]≠b[k]:=fun h=>h he
     ((repeat' (first|((first|apply WL.opN|apply WD.opN);exact yF;dsimp only [ZB,z0,z1])|refine WL.nil ?_|refine WD.nil ?_|refine ZA fun Kx hK=>?_|(refine hK _ _ ?_;clear hK)|refine WC.region ?_|(apply WC.draw;kernel_rfl;kernel_rfl)|((first|apply WL.opN|apply WD.opN);(focus ((first|(refine SY.ix (R:=RI) (_gR:=inferInstance) (k:=k) elI (OpD.t rfl) (OpD.t rfl) (by omega))|((first|apply SY.move|apply SY.assign|apply SY.lss|apply SY.neq) <;> (exact oD))|((first|apply SY.add) <;> first|exact oD|omega)|fail);all_goals infer_instance));dsimp only [ZB,z0,z1])|(apply ZC;(exact oD);all_goals (intro h;try exact xD))|(apply ZG;(exact oD);all_goals (intro h;try exact xD))|refine WC.skip ?_|refine WC.block ?_|refine ThenD.n ?_));all_goals (first|((repeat clear hK);(repeat clear Kx))))
     all_goals try (exfalso;first|contradiction|omega)
     (refine ⟨k+1,?_,by first|omega|(simp only;omega),rfl,?_⟩;rotate_left;((try dsimp only [ZK,z0,z1]);repeat (first|exact LeF.nil|refine ZD (k:=?_)));(try dsimp only))
     refine ⟨by omega,fun j hj h3 h4=>?_⟩
     rcases (by omega:j<k\/j=k) with h5|rfl
     ·exact h2 j h5 h3 h4
     ·exact he
    ·((repeat' (first|((first|apply WL.opN|apply WD.opN);exact yF;dsimp only [ZB,z0,z1])|refine WL.nil ?_|refine WD.nil ?_|refine ZA fun Kx hK=>?_|(refine hK _ _ ?_;clear hK)|refine WC.region ?_|(apply WC.draw;kernel_rfl;kernel_rfl)|((first|apply WL.opN|apply WD.opN);(focus ((first|(refine SY.ix (R:=RI) (_gR:=inferInstance) (k:=k) elI (OpD.t rfl) (OpD.t rfl) (by omega))|((first|apply SY.move|apply SY.assign|apply SY.lss|apply SY.neq) <;> (exact oD))|fail);all_goals infer_instance));dsimp only [ZB,z0,z1])|(apply ZC;(exact oD);all_goals (intro h;try exact xD))|(apply ZG;(exact oD);all_goals (intro h;try exact xD))|refine WC.skip ?_|refine WC.ret ?_|refine WC.block ?_|refine ThenD.r ?_|refine InBlockD.r ?_));all_goals (first|((repeat clear hK);(repeat clear Kx))))
     all_goals try (exfalso;first|contradiction|omega)
     (refine ⟨trivial,_,rfl,?_⟩;refine FinD.b ?_)
     symm;rw [decide_eq_false_iff_not];intro e;subst e;exact he rfl
   ·have hlt:¬ (k:Int)<(a.length:Int):=by omega
    ((repeat' (first|((first|apply WL.opN|apply WD.opN);exact yF;dsimp only [ZB,z0,z1])|refine WL.nil ?_|refine ZA fun Kx hK=>?_|(refine hK _ _ ?_;clear hK)|(refine Kont.skip ?_;clear hK)|refine WC.region ?_|((first|apply WL.opN|apply WD.opN);(focus ((first|((first|apply SY.move|apply SY.assign|apply SY.lss|apply SY.neq) <;> (exact oD))|fail);all_goals infer_instance));dsimp only [ZB,z0,z1])|(apply ZC;(exact oD);all_goals (intro h;try exact xD))|refine WC.ret ?_|refine WC.exit ?_));all_goals (first|((repeat clear hK);(repeat clear Kx))))
    all_goals try (exfalso;first|contradiction|omega)
    (refine ⟨trivial,_,rfl,?_⟩;refine FinD.b ?_)
    symm;rw [decide_eq_true_eq];exact List.ext_getElem hl fun j h3 h4=>h2 j (by omega) h3 h4
 ·have hlI:(a.length:Int)≠(b.length:Int):=by omega
  ((repeat' (first|((first|apply WL.opN|apply WD.opN);exact yF;dsimp only [ZB,z0,z1])|refine WL.nil ?_|refine ZA fun Kx hK=>?_|(refine hK _ _ ?_;clear hK)|refine WC.region ?_|((first|apply WL.opN|apply WD.opN);(focus ((first|((first|apply SY.move|apply SY.assign|apply SY.lss|apply SY.neq) <;> (exact oD))|(apply SY.len;(exact oD);(exact nD);(exact uD))|fail);all_goals infer_instance));dsimp only [ZB,z0,z1])|(apply ZG;(exact oD);all_goals (intro h;try exact xD))|refine WC.ret ?_|refine ThenD.r ?_));all_goals (first|((repeat clear hK);(repeat clear Kx))))
  all_goals try (exfalso;first|contradiction|omega)
  (refine ⟨trivial,_,rfl,?_⟩;refine FinD.b ?_)
  symm;rw [decide_eq_false_iff_not];intro e;subst e;exact hl rfl
set_option maxHeartbeats 32000000 in
theorem ZHx:Fn Tryz.prog 10 [] (dB true):=by
 have cE:=ZPJ
 have cS:=ZJM eF eV eC eB (by decide) (by decide) (by decide)
 rw [x_spr] at cS
 have cC:=ZJp (S:=True) eF eV eA 1 ZTC (by decide) ZQE (fun _=>ZHT) (.inr trivial)
 rw [ZTD] at cC
 simp only [Option.getD_some,Option.isSome_some] at cC
 have cW:=ZJp (S:=True) eF eV eW 1 ZQp (by decide) ZQE (fun _=>ZHT) (.inr trivial)
 rw [ZR4] at cW
 simp only [Option.getD_none,Option.isSome_none] at cW
 obtain ⟨r1,r2⟩:=x_rb3
 have c3:=ZFV eF eV [1,1,2,2]
 rw [r2] at c3
 generalize (ZFq eF eV [1,1,2,2]).1=l3 at *
 have c1:=ZFV eF eV [1,1,2,1]
 rw [x_rb1] at c1
 have cU:=ZN8 eV eA eV [1,1,2,1]
 rw [ZTF] at cU
 have cV:=ZOF (S:=True) eF eV eA eL ZTC ZTE ZQE (by decide) (fun _=>ZHT) (.inr trivial)
 rw [x_ver] at cV
 have cX:=ZOF (S:=True) eF eV eW eL ZQp ZTE ZQE (by decide) (fun _=>ZHT) (.inr trivial)
 rw [ZTG] at cX
 have q1:=ZMy eA eA
 rw [decide_eq_true rfl] at q1
 have q2:=ZNt eL
 have q3:=ZFZ [[(0,3),(1,2)]]
 refine ZE Tryz.func10 rfl rfl ?_
 show WC _ _ _ (List.replicate 151 (dX undef)) []
 simp only [List.replicate_succ,List.replicate_zero]
 ((repeat' (first|((first|apply WL.opN|apply WD.opN);exact yF;dsimp only [ZB,z0,z1])|refine WL.nil ?_|refine WD.nil ?_|refine ZA fun Kx hK=>?_|(refine hK _ _ ?_;clear hK)|refine WC.region ?_|(apply WC.draw;kernel_rfl;kernel_rfl) |  (refine WL.alloc (dst:=some 2) tzSb (ZHK rfl rfl rfl) fun b2=>?_;dsimp only [ZB,z0,z1]) |  (refine ZR ZOP rfl (OpD.t rfl) ZBb ?_;dsimp only [ZB,z0,z1]) |  (refine WL.alloc (dst:=some 3) ZQm (ZBB rfl rfl) fun b3=>?_;dsimp only [ZB,z0,z1]) |  (refine WL.alloc (dst:=some 11) ZQm (ZBB rfl rfl) fun b11=>?_;dsimp only [ZB,z0,z1]) |  (refine ZR ZBq rfl (OpD.t rfl) ZBA ?_;dsimp only [ZB,z0,z1])|((first|apply ZF|apply WD.op);(focus (first|exact wN|(apply SYG.yes;(exact wY);((first|(apply SY.call (cE) Tryz.call33;(exact aD))|(apply SY.call (cS) Tryz.call20;(exact aD))|(apply SY.call cC Tryz.call23;exact ArgsD.cons (OpD.tle rfl (ZHN trivial)) (ArgsD.cons (OpD.t rfl) (ArgsD.cons OpD.i ArgsD.nil)))|(apply SY.call cW Tryz.call23;exact ArgsD.cons (OpD.tle rfl (ZHN trivial)) (ArgsD.cons (OpD.t rfl) (ArgsD.cons OpD.i ArgsD.nil)))|(apply SY.call cV Tryz.call27;exact ArgsD.cons (OpD.tle rfl (ZHN trivial)) (ArgsD.cons (OpD.t rfl) (ArgsD.cons (OpD.t rfl) ArgsD.nil)))|(apply SY.call cX Tryz.call27;exact ArgsD.cons (OpD.tle rfl (ZHN trivial)) (ArgsD.cons (OpD.t rfl) (ArgsD.cons (OpD.t rfl) ArgsD.nil)))|(apply SY.call c3 Tryz.call15;exact ArgsD.cons (OpD.t rfl) (ArgsD.cons (OpD.t rfl) ArgsD.nil))|(apply SY.call c1 Tryz.call15;exact ArgsD.cons (OpD.t rfl) (ArgsD.cons (OpD.t rfl) ArgsD.nil))|(apply SY.call (cU) Tryz.call11;(exact aD))|(apply SY.call (q1) Tryz.call34;(exact aD))|(apply SY.call (q2) Tryz.call25;(exact aD))|(apply SY.call (q3) Tryz.call17;(exact aD))|(apply SY.load;exact ZOP;exact OpD.t rfl)|(apply SY.load;exact ZBq;exact OpD.t rfl)|(exact ZAf tyC (OpD.t rfl))|(apply SY.load;exact tySS;exact OpD.t rfl)|(refine ZP ZHP (OpD.t rfl) ZEP rfl rfl)|(exact ZLm ZRw (Nat.le_refl 1) (OpD.t rfl))|(refine ZP ZAG (OpD.t rfl) Zp rfl rfl)|(exact ZQy (OpD.t rfl) (OpD.t rfl))|(exact SY.build1' (R:=Zv) (_gR:=inferInstance) (els:=eL) ZCE (Zi (OpD.t rfl) (Zi (OpD.t rfl) Zj)) rfl rfl (fun _=>ZAN) (Nat.le_of_ble_eq_true rfl))|(exact ZL0 (R:=RV) (_gR:=inferInstance) (xs:=eV) (ys:=[(0,1)]) (l:=1) elV rfl (by decide) (OpD.t rfl) OpD.i)|(exact ZLy (R:=ZJ) (_gR:=inferInstance) (xs:=eF) (ys:=[[(0,3),(1,2)]]) (l:=1) (h:=2) ZFC rfl (by decide) (by decide) (OpD.t rfl) OpD.i OpD.i)|(exact ZOY (OpD.t rfl) (OpD.t rfl))|(exact ZLv (q:=3) (b:=false) (by rw [r1];rfl) (OpD.t rfl) OpD.i)|(exact ZLv (p:=0) (q:=0) (b:=false) rfl (OpD.t rfl) OpD.i)|(exact ZGU (p:=0) (q:=0) (b:=true) rfl (OpD.t rfl) OpD.i)|(exact ZGU (p:=18) (q:=18) (b:=true) rfl (OpD.t rfl) OpD.i)|(exact ZD0 (OpD.t rfl))|((first|apply SY.move|apply SY.assign|apply SY.eql|apply SY.neq|apply SY.not) <;> (exact oD))|(apply SY.load;(exact tD);(exact oD))|(apply SY.len;(exact oD);(exact nD);(exact uD))|(apply SY.build1';(exact eD);((try simp only [List.map_cons,List.map_nil]);(repeat (first|exact Zj|(apply Zi;(first|exact OpD.t rfl|exact OpD.i|exact OpD.b|exact OpD.tle rfl (by first|exact ZI|exact ZH (by decide))|exact ⟨ZI⟩|exact ⟨ZH (by decide)⟩)))));rfl;rfl;(intro _;first|exact ZAk|exact ZAO|exact ZAN|exact shape_B);(exact (by simp)))|(apply Zh;(exact oD);(with_reducible rfl);(exact oD))|(apply Ze;(exact oD);(with_reducible rfl);(exact oD))|(apply SY.extract;(exact oD);rfl)|fail);all_goals infer_instance))));dsimp only [ZB,z0,z1])|((first|refine ZN rfl rfl rfl (fun h=>?_) (fun h=>?_)|refine ZM rfl rfl rfl (fun h=>?_) (fun h=>?_)|refine ZL rfl rfl rfl (fun h=>?_) (fun h=>?_)|refine Za rfl rfl rfl (fun h=>?_) (fun h=>?_)|refine ZZ rfl rfl rfl (fun h=>?_) (fun h=>?_)|refine ZW rfl rfl rfl (fun h=>?_) (fun h=>?_)) <;> (first|(exfalso;first|omega|contradiction)|(dsimp only [z0,z1])))|(apply ZY;(exact oD);(with_reducible rfl))|refine WC.skip ?_|refine WC.ret ?_));all_goals (first|((repeat clear hK);(repeat clear Kx))))
 all_goals try (exfalso;first|contradiction|omega)
 (refine ⟨trivial,_,rfl,?_⟩;exact fD)
end
section
open Go.RowKit
theorem ZRK:ElT Tryz.prog 69 25 2 (.agg #[.slice none 0 0,.slice none 0 0]) 48 true:=⟨Tryz.underlying69,by kernel_rfl,Tryz.isAgg25,rfl⟩
def ZRP (L:List Lb):Bool:=L.all fun x=>ZKz x.1 x.2
def ZJN (l:Cx):Nat:=(l.map fun s=>2 ^ (min s.length 10)).sum
def ZOz (l:Cx):Int:=l.foldl (fun a s=>IntKind.i64.wrap (a+ZPR 1 ((min s.length 10:Nat):Int))) 0
def ZI9 (l:Cx) (L:List Lb):Bool:=ZRP L && (ZA4 l && decide (ZOz l≤400))
theorem ZHs {l:Cx} {k:Nat} (h:k<l.length):ZOz (l.take (k+1))=IntKind.i64.wrap (ZOz (l.take k)+ZPR 1 ((min l[k].length 10:Nat):Int)):=by
 unfold ZOz
 rw [List.take_succ_eq_append_getElem h,List.foldl_append]
 rfl
theorem min10 (m:Nat):(if (10:Int)<(m:Int) then (10:Int) else (m:Int))=((min m 10:Nat):Int):=by split <;> omega
theorem two11:∀ k:Fin 11,ZPR 1 (k.val:Int)=((2 ^ k.val:Nat):Int)/\2 ^ k.val≤1024:=by decide +kernel
theorem ZLT {l:Cx} {k:Nat} (h:k<l.length):ZJN (l.take (k+1))=ZJN (l.take k)+2 ^ (min l[k].length 10):=by
 unfold ZJN
 rw [List.take_succ_eq_append_getElem h,List.map_append,List.sum_append]
 simp
theorem ZP4 {l:Cx} (h:ZA4 l=true):ZJN l=ZGL l:=by
 unfold ZA4 at h
 simp only [Bool.and_eq_true,List.all_eq_true,decide_eq_true_eq] at h
 unfold ZJN ZGL
 congr 1
 exact List.map_congr_left fun s hs=>by rw [Nat.min_eq_left (h.2 s hs)]
theorem ZJf {l:Cx} (hl:l.length≤30):∀ j,j≤l.length->ZOz (l.take j)=((ZJN (l.take j):Nat):Int)/\ZJN (l.take j)≤1024*j
 | 0,_=>⟨rfl,Nat.le_refl _⟩
 | j+1,h=>by
  obtain ⟨h1,h2⟩:=ZJf hl j (by omega)
  obtain ⟨m,hm⟩:∃ m,min l[j].length 10=m:=⟨_,rfl⟩
  obtain ⟨t1,t2⟩:=two11 ⟨m,by omega⟩
  simp only at t1 t2
  rw [ZHs h,ZLT h,hm,h1,t1]
  obtain ⟨q,hq⟩:∃ q,2 ^ m=q:=⟨_,rfl⟩
  rw [hq] at t2 ⊢
  rw [ZEO (by omega)]
  omega
theorem ZO0 {l:Cx} (h:ZA4 l=true):ZOz l=((ZGL l:Nat):Int):=by
 have h30:l.length≤30:=ZM7 h
 have:=(ZJf h30 l.length (Nat.le_refl _)).1
 rw [List.take_length] at this
 rw [this,ZP4 h]
theorem ZM5 {l:Cx} {L:List Lb} (h:ZI9 l L=true):ZRP L=true/\ZA4 l=true/\ZGL l≤400:=by
 unfold ZI9 at h
 simp only [Bool.and_eq_true,decide_eq_true_eq] at h
 have:=ZO0 h.2.1
 exact ⟨h.1,h.2.1,by omega⟩

theorem ZQs {P:Program} {ops:Array Oper} {hp:List HObj} {fr:List Dat} {dst:Option Tmp} {ty:TypeId} {ps:String} {af:Array Edge} {g:Option (Nat × Bool)} {T T2:TypeId} {x y:Operand} {p q c:Int} (e:IntKind.i64.wrap (p+q)=c) (hx:OpD fr x (dI p)) (hy:OpD fr y (dI q)):SY P ops hp ⟨dst,.binOp .add T x y T2,ty,ps,af,g⟩ fr (dI c):=e ▸ ZAi hx hy (fun w=>by simp [Go.binOp,Op.intArith]) fun _ _=>rfl
theorem ZOd {P:Program} {ops:Array Oper} {hp:List HObj} {fr:List Dat} {dst:Option Tmp} {ty:TypeId} {ps:String} {af:Array Edge} {g:Option (Nat × Bool)} {x y:Operand} {m n c:Int} {ats:Array TypeId} (h:(if n<m then n else m)=c) (hx:OpD fr x (dI m)) (hy:OpD fr y (dI n)):SY P ops hp ⟨dst,.call { callee:=.builtin .min,args:=#[x,y],argTypes:=ats },ty,ps,af,g⟩ fr (dI c):=h ▸ ZQw hx hy
set_option maxHeartbeats 8000000 in
theorem ZM6 (l:Cx) (L:List Lb):Fn Tryz.prog 9 [dS Cpx l,dS (ArrK 2 Lab) L] (dB (ZI9 l L)):=by
 obtain ⟨o,ho⟩:∃ o,ZI9 l L=o:=⟨_,rfl⟩
 rw [ho]
 unfold ZI9 ZRP at ho
 have cC:=ZSc l
 (refine ZE Tryz.func9 rfl rfl ?_;simp only [Tryz.ntmps9,List.length_cons,List.length_nil,Nat.reduceAdd,Nat.reduceSub,List.replicate_succ,List.replicate_zero,List.cons_append,List.nil_append])
 (first|refine ZQ (t:=0) rfl ZEX fun hl0=>?_|refine ZQ (t:=0) rfl ZD7 fun hl0=>?_|refine ZQ (t:=0) rfl ZLZ fun hl0=>?_);simp only [maxLen] at hl0
 (first|refine ZQ (t:=1) rfl ZEX fun hl1=>?_|refine ZQ (t:=1) rfl ZD7 fun hl1=>?_|refine ZQ (t:=1) rfl ZLZ fun hl1=>?_);simp only [maxLen] at hl1
 (repeat' (first|(apply WL.opN;exact yF;dsimp only [ZB,z0,z1])|refine WL.nil ?_|refine ZA fun Kx hK=>?_|(refine hK _ _ ?_;clear hK)|refine WC.region ?_|(apply ZF;(focus (first|exact wN|(apply SYG.yes;(exact wY);((first|(exact SY.box (OpD.t rfl) ZDU)|(apply SY.len;exact OpD.t rfl;exact ZK8;exact ZRK.unt)|fail);all_goals infer_instance))));dsimp only [ZB,z0,z1])|refine WC.block ?_))
 all_goals try (exfalso;first|contradiction|omega)
 (refine WC.loopU (X:=Nat) (fun k=>[(12,dI (k:Int)),(4,dA),(6,dA),(13,dA),(14,dA),(15,dA),(16,dA),(17,dA),(18,dA),(19,dA)]) (fun k=>[]) (fun k=>L.length-k) (fun k=>k≤L.length/\(((L.drop k).all fun x=>ZKz x.1 x.2) && (ZA4 l && decide (ZOz l≤400)))=o) 0 ?start ?frame0 ?objs0 ?round)
 case start=>exact ⟨Nat.zero_le _,ho⟩
 case frame0=>((try dsimp only [ZK,z0,z1]);repeat (first|exact LeF.nil|refine ZD (k:=?_)))
 case objs0=>rfl
 case round =>
  rintro k ⟨hk,hE⟩
  dsimp only [ZK,z0,z1]
  by_cases hkl:k<L.length
  ·have hkI:(k:Int)<(L.length:Int):=by omega
   have c1:=ZRO L[k].1 L[k].2
   rw [List.drop_eq_getElem_cons hkl,List.all_cons] at hE
   cases hf:ZKz L[k].1 L[k].2 with
   | false =>
    rw [hf] at c1
    rw [hf,Bool.false_and,Bool.false_and] at hE
    subst hE
    ((repeat' (first|(apply WL.opN;exact yF;dsimp only [ZB,z0,z1])|refine WL.nil ?_|refine ZA fun Kx hK=>?_|(refine hK _ _ ?_;clear hK)|refine WC.region ?_ |  (refine WL.alloc (dst:=some 6) ZQm (ZBB rfl rfl) fun b6=>?_;dsimp only [ZB,z0,z1]) |  (refine ZR ZBq rfl (OpD.t rfl) ZBA ?_;dsimp only [ZB,z0,z1])|(apply ZF;(focus (first|exact wN|(apply SYG.yes;(exact wY);((first|(refine Zo (R:=Lab) (_gR:=inferInstance) ZRK (OpD.t rfl) (OpD.t rfl) hkl)|(apply SY.load;exact ZBq;exact OpD.t rfl)|(apply SY.call (c1) Tryz.call31;(exact aD))|((first|apply SY.move|apply SY.assign|apply SY.lss|apply SY.leq|apply SY.not) <;> (exact oD))|fail);all_goals infer_instance))));dsimp only [ZB,z0,z1])|(apply ZC;(exact oD);all_goals (intro h;try exact xD))|(apply ZO;(exact oD);all_goals (intro h;try exact xD))|refine WC.skip ?_|refine WC.ret ?_|refine WC.block ?_|refine ThenD.r ?_|refine InBlockD.r ?_));all_goals (first|((repeat clear hK);(repeat clear Kx))))
    all_goals try (exfalso;first|contradiction|omega)
    (refine ⟨trivial,_,rfl,?_⟩;exact fD)
   | true =>
    rw [hf] at c1
    rw [hf,Bool.true_and] at hE
    ((repeat' (first|(apply WL.opN;exact yF;dsimp only [ZB,z0,z1])|refine WL.nil ?_|refine ZA fun Kx hK=>?_|(refine hK _ _ ?_;clear hK)|refine WC.region ?_ |  (refine WL.alloc (dst:=some 6) ZQm (ZBB rfl rfl) fun b6=>?_;dsimp only [ZB,z0,z1]) |  (refine ZR ZBq rfl (OpD.t rfl) ZBA ?_;dsimp only [ZB,z0,z1])|(apply ZF;(focus (first|exact wN|(apply SYG.yes;(exact wY);((first|(refine Zo (R:=Lab) (_gR:=inferInstance) ZRK (OpD.t rfl) (OpD.t rfl) hkl)|(apply SY.load;exact ZBq;exact OpD.t rfl)|(apply SY.call (c1) Tryz.call31;(exact aD))|((first|apply SY.move|apply SY.assign|apply SY.lss|apply SY.leq|apply SY.not) <;> (exact oD))|((first|apply SY.add) <;> first|exact oD|omega)|fail);all_goals infer_instance))));dsimp only [ZB,z0,z1])|(apply ZC;(exact oD);all_goals (intro h;try exact xD))|(apply ZO;(exact oD);all_goals (intro h;try exact xD))|refine WC.skip ?_|refine WC.block ?_|refine ThenD.n ?_));all_goals (first|((repeat clear hK);(repeat clear Kx))))
    all_goals try (exfalso;first|contradiction|omega)
    (refine ⟨k+1,?_,by first|omega|(simp only;omega),rfl,?_⟩;rotate_left;((try dsimp only [ZK,z0,z1]);repeat (first|exact LeF.nil|refine ZD (k:=?_)));(try dsimp only))
    exact ⟨hkl,hE⟩
  ·have hkI:¬ (k:Int)<(L.length:Int):=by omega
   rw [List.drop_of_length_le (by omega),List.all_nil,Bool.true_and] at hE
   (repeat' (first|(apply WL.opN;exact yF;dsimp only [ZB,z0,z1])|refine WL.nil ?_|refine ZA fun Kx hK=>?_|(refine hK _ _ ?_;clear hK)|(refine Kont.skip ?_;clear hK)|refine WC.region ?_|(apply ZF;(focus (first|exact wN|(apply SYG.yes;(exact wY);((first|(apply ZBy ZI8;exact OpD.t rfl)|((first|apply SY.move|apply SY.assign|apply SY.lss|apply SY.leq|apply SY.not) <;> (exact oD))|(apply SY.len;(exact oD);(exact nD);(exact uD))|fail);all_goals infer_instance))));dsimp only [ZB,z0,z1])|(apply ZC;(exact oD);all_goals (intro h;try exact xD))|refine WC.exit ?_|refine WC.block ?_))
   all_goals try (exfalso;first|contradiction|omega)
   (refine WC.loopU (X:=Nat) (fun j=>[(23,dI (j:Int)),(7,dI (ZOz (l.take j))),(9,dA),(24,dA),(25,dA),(26,dA),(27,dA),(28,dA),(29,dA),(30,dA),(31,dA),(32,dA),(33,dA)]) (fun j=>[]) (fun j=>l.length-j) (fun j=>j≤l.length) 0 ?start ?frame0 ?objs0 ?round)
   case start=>exact Nat.zero_le _
   case frame0=>((try dsimp only [ZK,z0,z1]);repeat (first|exact LeF.nil|refine ZD (k:=?_)))
   case objs0=>rfl
   case round =>
    rintro j hj
    dsimp only [ZK,z0,z1]
    by_cases hjl:j<l.length
    ·have hjI:(j:Int)<(l.length:Int):=by omega
     obtain ⟨m,hm⟩:∃ m,min l[j].length 10=m:=⟨_,rfl⟩
     have e1:(if (10:Int)<(l[j].length:Int) then (10:Int) else (l[j].length:Int))=(m:Int):=by rw [<- hm];exact min10 _
     have hm10:m≤10:=by omega
     have hsn:=ZHs hjl
     rw [hm] at hsn
     ((repeat' (first|(apply WL.opN;exact yF;dsimp only [ZB,z0,z1])|refine WL.nil ?_|refine ZA fun Kx hK=>?_|(refine hK _ _ ?_;clear hK)|refine WC.region ?_|(apply ZF;(focus (first|exact wN|(apply SYG.yes;(exact wY);((first|(refine SY.ix (R:=ZJ) (_gR:=inferInstance) ZFC (OpD.t rfl) (OpD.t rfl) hjl)|(exact ZOd e1 (OpD.t rfl) OpD.i)|(exact ZQs hsn.symm (OpD.t rfl) (OpD.t rfl))|((first|apply SY.move|apply SY.assign|apply SY.lss|apply SY.leq|apply SY.not) <;> (exact oD))|((first|apply SY.add) <;> first|exact oD|omega)|((first|apply SY.shl) <;> first|exact oD|assumption|omega)|(apply SY.len;(exact oD);(exact nD);(exact uD))|fail);all_goals infer_instance))));dsimp only [ZB,z0,z1])|(apply ZC;(exact oD);all_goals (intro h;try exact xD))|refine WC.skip ?_|refine WC.block ?_|refine ThenD.n ?_));all_goals (first|((repeat clear hK);(repeat clear Kx))))
     all_goals try (exfalso;first|contradiction|omega)
     (refine ⟨j+1,?_,by first|omega|(simp only;omega),rfl,?_⟩;rotate_left;((try dsimp only [ZK,z0,z1]);repeat (first|exact LeF.nil|refine ZD (k:=?_)));(try dsimp only))
     exact hjl
    ·have hjI:¬ (j:Int)<(l.length:Int):=by omega
     obtain rfl:j=l.length:=by omega
     rw [List.take_length]
     cases hfa:ZA4 l with
     | false =>
      rw [hfa] at cC hE
      rw [Bool.false_and] at hE
      subst hE
      ((repeat' (first|(apply WL.opN;exact yF;dsimp only [ZB,z0,z1])|refine WL.nil ?_|refine ZA fun Kx hK=>?_|(refine hK _ _ ?_;clear hK)|(refine Kont.skip ?_;clear hK)|refine WC.region ?_|(apply ZF;(focus (first|exact wN|(apply SYG.yes;(exact wY);((first|(apply SY.call (cC) Tryz.call32;(exact aD))|((first|apply SY.move|apply SY.assign|apply SY.lss|apply SY.leq|apply SY.not) <;> (exact oD))|(apply Ze;(exact oD);(with_reducible rfl);(exact oD))|fail);all_goals infer_instance))));dsimp only [ZB,z0,z1])|(apply ZC;(exact oD);all_goals (intro h;try exact xD))|refine WC.ret ?_|refine WC.exit ?_));all_goals (first|((repeat clear hK);(repeat clear Kx))))
      all_goals try (exfalso;first|contradiction|omega)
      (refine ⟨trivial,_,rfl,?_⟩;exact fD)
     | true =>
      rw [hfa] at cC hE
      rw [Bool.true_and] at hE
      by_cases h4:ZOz l≤400
      ·rw [decide_eq_true h4] at hE
       subst hE
       ((repeat' (first|(apply WL.opN;exact yF;dsimp only [ZB,z0,z1])|refine WL.nil ?_|refine ZA fun Kx hK=>?_|(refine hK _ _ ?_;clear hK)|(refine Kont.skip ?_;clear hK)|refine WC.region ?_|(apply ZF;(focus (first|exact wN|(apply SYG.yes;(exact wY);((first|(apply SY.call (cC) Tryz.call32;(exact aD))|((first|apply SY.move|apply SY.assign|apply SY.lss|apply SY.leq|apply SY.not) <;> (exact oD))|(apply Zh;(exact oD);(with_reducible rfl);(exact oD))|fail);all_goals infer_instance))));dsimp only [ZB,z0,z1])|(apply ZC;(exact oD);all_goals (intro h;try exact xD))|refine WC.ret ?_|refine WC.exit ?_));all_goals (first|((repeat clear hK);(repeat clear Kx))))
       all_goals try (exfalso;first|contradiction|omega)
       (refine ⟨trivial,_,rfl,?_⟩;refine FinD.b ?_)
       all_goals simp_all
      ·rw [decide_eq_false h4] at hE
       subst hE
       ((repeat' (first|(apply WL.opN;exact yF;dsimp only [ZB,z0,z1])|refine WL.nil ?_|refine ZA fun Kx hK=>?_|(refine hK _ _ ?_;clear hK)|(refine Kont.skip ?_;clear hK)|refine WC.region ?_|(apply ZF;(focus (first|exact wN|(apply SYG.yes;(exact wY);((first|(apply SY.call (cC) Tryz.call32;(exact aD))|((first|apply SY.move|apply SY.assign|apply SY.lss|apply SY.leq|apply SY.not) <;> (exact oD))|(apply Zh;(exact oD);(with_reducible rfl);(exact oD))|fail);all_goals infer_instance))));dsimp only [ZB,z0,z1])|(apply ZC;(exact oD);all_goals (intro h;try exact xD))|refine WC.ret ?_|refine WC.exit ?_));all_goals (first|((repeat clear hK);(repeat clear Kx))))
       all_goals try (exfalso;first|contradiction|omega)
       (refine ⟨trivial,_,rfl,?_⟩;refine FinD.b ?_)
       all_goals simp_all
end
section
open Go.RowKit
theorem ZQt {ops:Array Oper} {hp:List HObj} {fr:List Dat} {dst:Option Tmp} {ty:TypeId} {ps:String} {af:Array Edge} {g:Option (Nat × Bool)} {T2:TypeId} {x y:Operand} {p:Bool} (hx:OpD fr x (dB p)) (hy:OpD fr y (dB p)):SY Tryz.prog ops hp ⟨dst,.binOp .eql 4 x y T2,ty,ps,af,g⟩ fr (dB true):=by
 have:=ZLl (ops:=ops) (hp:=hp) (dst:=dst) (ty:=ty) (ps:=ps) (af:=af) (g:=g) (T2:=T2) hx hy eqBB
 rwa [beq_self_eq_true] at this

set_option maxHeartbeats 8000000 in
theorem suits34_p (vs:List Vx) (A:List Int) (ws:List Vx) (B:List Int):Fn Tryz.prog 3 [dS Lab (vs,A),dS Lab (ws,B)] (dB true):=by
 have cF:=ZM6 [] [(vs,A),(ws,B)]
 have cA:=ZHx
 have c1:=ZN8 vs A ws B
 have c2:=ZLK vs A ws B
 have c3:=ZE9 vs A
 have c4:=ZEq vs A
 generalize ZDM vs A ws B=R at *
 obtain ⟨sb,se⟩:=R
 simp only at c1 c2
 generalize ZAa vs A=ck at *
 (refine ZE Tryz.func3 rfl rfl ?_;simp only [Tryz.ntmps3,List.length_cons,List.length_nil,Nat.reduceAdd,Nat.reduceSub,List.replicate_succ,List.replicate_zero,List.cons_append,List.nil_append])
 cases hf:ZI9 [] [(vs,A),(ws,B)] with
 | false =>
  rw [hf] at cF
  ((repeat' (first|((first|apply WL.opN|apply WD.opN);exact yF;dsimp only [ZB,z0,z1])|refine WL.nil ?_|refine ZA fun Kx hK=>?_|(refine hK _ _ ?_;clear hK)|refine WC.region ?_|((first|apply ZF|apply WD.op);(focus (first|exact wN|(apply SYG.yes;(exact wY);((first|(exact SY.box (OpD.t rfl) ZBA)|(apply SY.load;exact ZBq;exact OpD.t rfl)|(exact SY.buildE (R:=Lab) (_gR:=inferInstance) (els:=[(vs,A),(ws,B)]) ZRK (Zi (OpD.t rfl) (Zi (OpD.t rfl) Zj)) rfl rfl (by decide) (fun _=>ZBA) (by simp))|(apply SY.call (cF) Tryz.call9;(exact aD))|(apply SY.call (cA) Tryz.call10;(exact aD))|((first|apply SY.move|apply SY.assign|apply SY.eql|apply SY.not) <;> (exact oD))|exact ZLt ZI8|fail);all_goals infer_instance))));dsimp only [ZB,z0,z1])|(apply ZO;(exact oD);all_goals (intro h;try exact xD))|refine WC.ret ?_|refine ThenD.r ?_));all_goals (first|((repeat clear hK);(repeat clear Kx))))
  all_goals try (exfalso;first|contradiction|omega)
  all_goals (refine ⟨trivial,_,rfl,?_⟩;exact fD)
 | true =>
  rw [hf] at cF
  ((repeat' (first|((first|apply WL.opN|apply WD.opN);exact yF;dsimp only [ZB,z0,z1])|refine WL.nil ?_|refine WD.nil ?_|refine ZA fun Kx hK=>?_|(refine hK _ _ ?_;clear hK)|refine WC.region ?_|(apply WC.draw;kernel_rfl;kernel_rfl)|((first|apply ZF|apply WD.op);(focus (first|exact wN|(apply SYG.yes;(exact wY);((first|(exact SY.box (OpD.t rfl) ZBA)|(apply SY.load;exact ZBq;exact OpD.t rfl)|(exact SY.buildE (R:=Lab) (_gR:=inferInstance) (els:=[(vs,A),(ws,B)]) ZRK (Zi (OpD.t rfl) (Zi (OpD.t rfl) Zj)) rfl rfl (by decide) (fun _=>ZBA) (by simp))|(exact ZD0 (OpD.t rfl))|(apply SY.call (cF) Tryz.call9;(exact aD))|(apply SY.call (cA) Tryz.call10;(exact aD))|(apply SY.call (c1) Tryz.call11;(exact aD))|(apply SY.call (c2) Tryz.call12;(exact aD))|(apply SY.call (c3) Tryz.call13;(exact aD))|(apply SY.call (c4) Tryz.call14;(exact aD))|(exact ZGU (b:=true) (decide_eq_true rfl) (OpD.t rfl) (OpD.t rfl))|(exact ZQt (OpD.t rfl) (OpD.t rfl))|((first|apply SY.move|apply SY.assign|apply SY.eql|apply SY.not) <;> (exact oD))|exact ZLt ZI8|(apply Zh;(exact oD);(with_reducible rfl);(exact oD))|(apply SY.extract;(exact oD);rfl)|fail);all_goals infer_instance))));dsimp only [ZB,z0,z1])|(apply ZY;(exact oD);(with_reducible rfl))|refine WC.skip ?_|refine WC.ret ?_));all_goals (first|((repeat clear hK);(repeat clear Kx))))
  all_goals try (exfalso;first|contradiction|omega)
  all_goals (refine ⟨trivial,_,rfl,?_⟩;exact fD)
set_option maxHeartbeats 8000000 in
theorem counts34L_p (l:Cx) (vs:List Vx) (A:List Int):Fn Tryz.prog 4 [dS Cpx l,dS Lab (vs,A)] (dB true):=by
 have cF:=ZM6 l [(vs,A)]
 have cA:=ZHx
 cases hf:ZI9 l [(vs,A)] with
 | false =>
  rw [hf] at cF
  (refine ZE Tryz.func4 rfl rfl ?_;simp only [Tryz.ntmps4,List.length_cons,List.length_nil,Nat.reduceAdd,Nat.reduceSub,List.replicate_succ,List.replicate_zero,List.cons_append,List.nil_append])
  ((repeat' (first|(apply WL.opN;exact yF;dsimp only [ZB,z0,z1])|refine WL.nil ?_|refine ZA fun Kx hK=>?_|(refine hK _ _ ?_;clear hK)|refine WC.region ?_|(apply ZF;(focus (first|exact wN|(apply SYG.yes;(exact wY);((first|(exact SY.box (OpD.t rfl) ZDU)|(exact SY.box (OpD.t rfl) ZBA)|(apply SY.load;exact ZBq;exact OpD.t rfl)|(exact SY.buildE (R:=Lab) (_gR:=inferInstance) (els:=[(vs,A)]) ZRK (Zi (OpD.t rfl) Zj) rfl rfl (by decide) (fun _=>ZBA) (by simp))|(apply SY.call (cF) Tryz.call9;(exact aD))|(apply SY.call (cA) Tryz.call10;(exact aD))|((first|apply SY.move|apply SY.assign|apply SY.eql|apply SY.not) <;> (exact oD))|fail);all_goals infer_instance))));dsimp only [ZB,z0,z1])|(apply ZO;(exact oD);all_goals (intro h;try exact xD))|refine WC.ret ?_|refine ThenD.r ?_));all_goals (first|((repeat clear hK);(repeat clear Kx))))
  all_goals try (exfalso;first|contradiction|omega)
  all_goals (refine ⟨trivial,_,rfl,?_⟩;exact fD)
 | true =>
  rw [hf] at cF
  have hl:=ZM7 (ZM5 hf).2.1
  have c1:=ZFV l vs A
  have c2:=ZIb l vs A (by omega)
  have c3:=fun x=>ZFZ x
  generalize ZFq l vs A=R at *
  obtain ⟨sb,se⟩:=R
  simp only at c1 c2
  (refine ZE Tryz.func4 rfl rfl ?_;simp only [Tryz.ntmps4,List.length_cons,List.length_nil,Nat.reduceAdd,Nat.reduceSub,List.replicate_succ,List.replicate_zero,List.cons_append,List.nil_append])
  ((repeat' (first|(apply WL.opN;exact yF;dsimp only [ZB,z0,z1])|refine WL.nil ?_|refine ZA fun Kx hK=>?_|(refine hK _ _ ?_;clear hK)|refine WC.region ?_|(apply ZF;(focus (first|exact wN|(apply SYG.yes;(exact wY);((first|(exact SY.box (OpD.t rfl) ZDU)|(exact SY.box (OpD.t rfl) ZBA)|(apply SY.load;exact ZBq;exact OpD.t rfl)|(exact SY.buildE (R:=Lab) (_gR:=inferInstance) (els:=[(vs,A)]) ZRK (Zi (OpD.t rfl) Zj) rfl rfl (by decide) (fun _=>ZBA) (by simp))|(exact ZD0 (OpD.t rfl))|(apply SY.call (cF) Tryz.call9;(exact aD))|(apply SY.call (cA) Tryz.call10;(exact aD))|(apply SY.call (c1) Tryz.call15;(exact aD))|(apply SY.call (c2) Tryz.call16;(exact aD))|(apply SY.call (c3 sb) Tryz.call17;(exact aD))|(exact ZGU (b:=true) (decide_eq_true rfl) (OpD.t rfl) (OpD.t rfl))|((first|apply SY.move|apply SY.assign|apply SY.eql|apply SY.not) <;> (exact oD))|(apply Zh;(exact oD);(with_reducible rfl);(exact oD))|(apply SY.extract;(exact oD);rfl)|fail);all_goals infer_instance))));dsimp only [ZB,z0,z1])|(apply ZY;(exact oD);(with_reducible rfl))|refine WC.skip ?_|refine WC.ret ?_));all_goals (first|((repeat clear hK);(repeat clear Kx))))
  all_goals try (exfalso;first|contradiction|omega)
  all_goals (refine ⟨trivial,_,rfl,?_⟩;exact fD)
end
end Go.Proofs.YtofkoleingbbpaaGreatDoor
