/- Part 26 of the proof. -/
import Derived.Deep.SlicePairs
import Derived.Lib.SmallJoins
import Derived.Test.YtofkoleingbbpaaGreatDoorRows
import Derived.Test.YtofkoleingbbpaaGreatDoorZa25
set_option linter.all false
set_option maxRecDepth 100000
set_option maxHeartbeats 64000000
namespace Go.Proofs.YtofkoleingbbpaaGreatDoor
section
open Go.RowKit
abbrev eA:List Int:=[1,3,2,3]
abbrev eW:List Int:=[1,3,2,7]
abbrev eL:List Cx:=[[[(0,1)]],eF]
theorem x_spr:ZVY eF eV eC eB=((eV,eA),0):=by decide +kernel
theorem ZVc:ZCD eF eV eA=0:=by decide +kernel
theorem ZTH:ZCD eF eV eW=0:=by decide +kernel
theorem ZVd:ZFU eF (Zc eV eA) 2=some eL:=by decide +kernel
theorem ZUb:ZFU eF (Zc eV eW) 2=none:=by decide +kernel
theorem x_rb3:(ZK9 eF eV [1,1,2,2]).1.length=3/\(ZK9 eF eV [1,1,2,2]).2=0:=by decide +kernel
theorem x_rb1:ZK9 eF eV [1,1,2,1]=([[(0,3),(1,2)]],0):=by decide +kernel
theorem ZVf:ZKt eV eA eV [1,1,2,1]=(true,0):=by decide +kernel
theorem ZVe:ZG6 eF eL=0:=by decide +kernel
theorem x_ver:ZUY eF (Zc eV eA) eL=0:=by decide +kernel
theorem ZVg:ZUY eF (Zc eV eW) eL=18:=by decide +kernel
theorem ZSi:ZF8 eF≤400:=by decide
theorem ZJQ:ZEr eF:=by unfold ZEr;decide
theorem ZTQ {ops:Array Oper} {hp:List HObj} {fr:List Dat} {dst:Option Tmp} {ty:TypeId} {ps:String} {af:Array Edge} {g:Option (Nat × Bool)} {x y:Operand} {vs:List Vx} {A:List Int} (hx:OpD fr x (dS ZI vs)) (hy:OpD fr y (dS ZAQ A)):SY Tryz.prog ops hp ⟨dst,.build 25 #[(0,x),(1,y)],ty,ps,af,g⟩ fr (dS Lab (vs,A)):=ZWK fun {I w a} ho=>by
 have h3:ArrK 2 RV I w (a.eval x) vs:=hx.get (by simp[Op.operands]) ho;have h2:ZAQ I w (a.eval y) A:=hy.get (by simp[Op.operands]) ho;have h2':=h2;obtain⟨ad,c,hv,_⟩:=h2';have h3':=h3;obtain⟨ad2,c2,hv2,_⟩:=h3';have hm:∀ad n c ad2 n2 c2 w,(Instr.build 25 #[(0,.slice ad2 n2 c2),(1,.slice ad n c)]).run Tryz.prog w = .ok (.agg #[.slice ad2 n2 c2,.slice ad n c]) w:=by intro ad n c ad2 n2 c2 w;go_simp
 refine⟨.agg #[.slice ad2 vs.length c2,.slice ad A.length c],?_,_,_,rfl,rfl,rfl,?_,?_⟩
 ·unfold execOp;simp only[List.map_toArray,List.map_cons,List.map_nil,hv,hv2,Sem.run_bind,hm,Result.andThen_ok,Sem.run_pure]
 ·rw[hv2] at h3;exact h3
 ·rw[hv] at h2;exact h2
theorem Z1 {p:Lb}:(dS Lab p).Shape 2 true:=fun _ _ _ h=>by
 obtain⟨u,u',rfl,h0,h1,_,_⟩:=h;exact⟨[u,u'],rfl,by decide,fun c hc=>by
  simp only[List.mem_cons,List.not_mem_nil,or_false] at hc;rcases hc with rfl|rfl <;> assumption,rfl,rfl⟩
section
variable {P:Program} {ops:Array Oper} {hp:List HObj} {fr:List Dat} {dst:Option Tmp} {ty:TypeId} {ps:String} {af:Array Edge} {g:Option (Nat × Bool)} {T T2:TypeId}
theorem ZOK {p q:Int} {b:Bool} {x y:Operand} (h:decide (p≠q)=b) (hx:OpD fr x (dI p)) (hy:OpD fr y (dI q)):SY P ops hp ⟨dst,.binOp .neq T x y T2,ty,ps,af,g⟩ fr (dB b):=by
 have:=ZVv (P:=P) (ops:=ops) (hp:=hp) (dst:=dst) (ty:=ty) (ps:=ps) (af:=af) (g:=g) (T:=T) (T2:=T2) hx hy;have e:decide (p≠q) = !decide (p=q):=by simp
 first|rwa[h] at this|(rw[<- e,h] at this;exact this)
theorem ZEb {p q:Int} {b:Bool} {x y:Operand} (h:decide (p=q)=b) (hx:OpD fr x (dI p)) (hy:OpD fr y (dI q)):SY P ops hp ⟨dst,.binOp .eql T x y T2,ty,ps,af,g⟩ fr (dB b):=by
 have:=ZV7 (P:=P) (ops:=ops) (hp:=hp) (dst:=dst) (ty:=ty) (ps:=ps) (af:=af) (g:=g) (T:=T) (T2:=T2) hx hy;rwa[h] at this
theorem ZOP {n l:Nat} {x y:Operand} {t e:TypeId} {bytes:Nat} {z:Value} {ag:Bool} (E:ElT P t e n z bytes ag) {α:Type} {R:Rel α} {_gR:Good R} {xs ys:List α} (he:xs.take l=ys) (h1:l≤xs.length) (hx:OpD fr x (dS (ArrK n R) xs)) (hy:OpD fr y (dI (l:Int))):SY P ops hp ⟨dst,.slice t x none (some y) none,ty,ps,af,g⟩ fr (dS (ArrK n R) ys):=he ▸ ZL5 (_gR:=_gR) E hx hy l rfl h1
theorem ZON {l h:Nat} {x y y2:Operand} {t e:TypeId} {bytes:Nat} {z:Value} {ag:Bool} (E:ElT P t e 1 z bytes ag) {α:Type} {R:Rel α} {_gR:Good R} {xs ys:List α} (he:(xs.drop l).take (h-l)=ys) (h1:l≤h) (h2:h≤xs.length) (hx:OpD fr x (dS (Arr R) xs)) (hy:OpD fr y (dI (l:Int))) (hy2:OpD fr y2 (dI (h:Int))):SY P ops hp ⟨dst,.slice t x (some y) (some y2) none,ty,ps,af,g⟩ fr (dS (Arr R) ys):=he ▸ ZGe (_gR:=_gR) E hx (ZCt hy rfl) (ZCt hy2 rfl) h1 h2
theorem ZQ3 {x y:Operand} (hx:OpD fr x (dI 0)) (hy:OpD fr y (dI 0)):SY P ops hp ⟨dst,.binOp .add T x y T2,ty,ps,af,g⟩ fr (dI 0):=ZV2 hx hy (by omega)
end
theorem ZUT:StrT Tryz.prog 29 1:=⟨fun b off i w hi=>by
 obtain rfl:i=0:=by omega
 go_simp⟩

theorem ZPM (a b:List Int):Fn Tryz.prog 34 [dS ZAQ a,dS ZAQ b] (dB (decide (a=b))):=by
 refine zE Tryz.func34 26 ?_;by_cases hl:a.length=b.length
 ·have hlI:¬ (a.length:Int)≠(b.length:Int):=by omega
  (repeat' (first|refine zS ?_|refine ZA fun Kx hK=>?_|(refine hK _ _ ?_;clear hK)|(apply zV;(focus ((first|((first|apply ZVo|apply ZVn|apply ZVq|apply ZVv) <;> exact oD)|(apply ZVu;exact oD;exact nD;exact uD));all_goals infer_instance));exact zQ)|(apply ZG;exact oD;all_goals (intro h;try exact xD))|refine ZVr ?_|refine ZVp ?_))
  all_goals try exact xO
  (first|refine ZP (t:=0) rfl ZEG fun hl0=>?_|refine ZP (t:=0) rfl ZDu fun hl0=>?_|refine ZP (t:=0) rfl ZJS fun hl0=>?_);simp only[maxLen] at hl0
  (refine ZV4 (X:=Nat) (fun k=>[(13,dI (k:Int)),(4,dA),(5,dA),(14,dA),(15,dA),(16,dA),(17,dA),(18,dA),(19,dA),(20,dA),(21,dA),(22,dA),(23,dA),(24,dA),(25,dA)]) (fun k=>[]) (fun k=>a.length-k) (fun k=>k≤a.length/\∀j (hj:j<k) (h1:j<a.length) (h2:j<b.length),a[j]=b[j]) 0 ?start ?frame0 ?objs0 ?round)
  case start=>exact⟨Nat.zero_le _,fun j hj=>absurd hj (Nat.not_lt_zero j)⟩
  case frame0=>exact zFr
  case objs0=>rfl
  case round =>
   rintro k ⟨h1,h2⟩;dsimp only[ZH,z0,z1];by_cases hk:k<a.length
   ·have hlt:(k:Int)<(a.length:Int):=by omega
    have hkb:k<b.length:=by omega
    by_cases he:a[k]=b[k]
    ·have heI:¬ a[k]≠b[k]:=fun h=>h he;((repeat' (first|refine zS ?_|refine WD.nil ?_|refine ZA fun Kx hK=>?_|(refine hK _ _ ?_;clear hK)|(apply ZWB;kernel_rfl;kernel_rfl)|((first|apply ZVi|apply ZVl);(focus ((first|(refine ZV8 (R:=RI) (_gR:=inferInstance) (k:=k) elI (ZVh rfl) (ZVh rfl) (by omega))|exact yG|fail);all_goals infer_instance));dsimp only[ZC,z0,z1])|(apply ZB;exact oD;all_goals (intro h;try exact xD))|(apply ZG;exact oD;all_goals (intro h;try exact xD))|refine ZVr ?_|refine ZVp ?_|refine ZVx ?_));all_goals ((repeat clear hK);repeat clear Kx))
     all_goals try exact xO
     (refine zNx (k+1) ?_;(try dsimp only))
     refine⟨by omega,fun j hj h3 h4=>?_⟩;rcases(by omega:j<k\/j=k) with h5|rfl
     ·exact h2 j h5 h3 h4
     ·exact he
    ·((repeat' (first|refine zS ?_|refine WD.nil ?_|refine ZA fun Kx hK=>?_|(refine hK _ _ ?_;clear hK)|(apply ZWB;kernel_rfl;kernel_rfl)|((first|apply ZVi|apply ZVl);(focus ((first|(refine ZV8 (R:=RI) (_gR:=inferInstance) (k:=k) elI (ZVh rfl) (ZVh rfl) (by omega))|exact yG|fail);all_goals infer_instance));dsimp only[ZC,z0,z1])|(apply ZB;exact oD;all_goals (intro h;try exact xD))|(apply ZG;exact oD;all_goals (intro h;try exact xD))|refine ZVr ?_|refine ZVs ?_|refine ZVp ?_|refine ZVz ?_|refine ZWC ?_));all_goals ((repeat clear hK);repeat clear Kx))
     all_goals try exact xO
     (refine⟨trivial,_,rfl,?_⟩;refine ZWL ?_)
     symm;rw[decide_eq_false_iff_not];intro e;subst e;exact he rfl
   ·have hlt:¬ (k:Int)<(a.length:Int):=by omega
    ((repeat' (first|refine zS ?_|refine ZA fun Kx hK=>?_|(refine hK _ _ ?_;clear hK)|(refine ZV0 ?_;clear hK)|(apply zV;exact yG;exact zQ)|(apply ZB;exact oD;all_goals (intro h;try exact xD))|refine ZVs ?_|refine ZV1 ?_));all_goals ((repeat clear hK);repeat clear Kx))
    all_goals try exact xO
    (refine⟨trivial,_,rfl,?_⟩;refine ZWL ?_)
    symm;rw[decide_eq_true_eq];exact List.ext_getElem hl fun j h3 h4=>h2 j (by omega) h3 h4
 ·have hlI:(a.length:Int)≠(b.length:Int):=by omega
  ((repeat' (first|refine zS ?_|refine ZA fun Kx hK=>?_|(refine hK _ _ ?_;clear hK)|(apply zV;exact yG;exact zQ)|(apply ZG;exact oD;all_goals (intro h;try exact xD))|refine ZVs ?_|refine ZVz ?_));all_goals ((repeat clear hK);repeat clear Kx))
  all_goals try exact xO
  (refine⟨trivial,_,rfl,?_⟩;refine ZWL ?_)
  symm;rw[decide_eq_false_iff_not];intro e;subst e;exact hl rfl
theorem ZJt:Fn Tryz.prog 10 [] (dB true):=by
 have cE:=ZRl;have cS:=ZLn eF eV eC eB (by decide) (by decide) (by decide);rw[x_spr] at cS;have cC:=ZGH (S:=True) eF eV eA 1 ZVc (by decide) ZSi (fun _=>ZJQ) (.inr trivial);rw[ZVd] at cC;simp only[Option.getD_some,Option.isSome_some] at cC;have cW:=ZGH (S:=True) eF eV eW 1 ZTH (by decide) ZSi (fun _=>ZJQ) (.inr trivial);rw[ZUb] at cW;simp only[Option.getD_none,Option.isSome_none] at cW;obtain⟨r1,r2⟩:=x_rb3;have c3:=ZKd eF eV [1,1,2,2];rw[r2] at c3;generalize (ZK9 eF eV [1,1,2,2]).1=l3 at *;have c1:=ZKd eF eV [1,1,2,1];rw[x_rb1] at c1;have cU:=ZUU eV eA eV [1,1,2,1];rw[ZVf] at cU;have cV:=ZJN (S:=True) eF eV eA eL ZVc ZVe ZSi (by decide) (fun _=>ZJQ) (.inr trivial);rw[x_ver] at cV;have cX:=ZJN (S:=True) eF eV eW eL ZTH ZVe ZSi (by decide) (fun _=>ZJQ) (.inr trivial);rw[ZVg] at cX;have q1:=ZPM eA eA;rw[decide_eq_true rfl] at q1;have q2:=ZKl eL;have q3:=ZKm [[(0,3),(1,2)]];refine ZE Tryz.func10 rfl rfl ?_;show WC _ _ _ (List.replicate 151 (dX undef)) [];simp only[List.replicate_succ,List.replicate_zero];((repeat' (first|refine zS ?_|refine WD.nil ?_|refine ZA fun Kx hK=>?_|(refine hK _ _ ?_;clear hK)|(apply ZWB;kernel_rfl;kernel_rfl) |  (refine ZWF (dst:=some 2) tzSb (ZJF rfl rfl rfl) fun b2=>?_;dsimp only[ZC,z0,z1]) |  (refine ZR ZQy rfl (ZVh rfl) ZCB ?_;dsimp only[ZC,z0,z1]) |  (refine ZWF (dst:=some 3) ZTD (ZBd rfl rfl) fun b3=>?_;dsimp only[ZC,z0,z1]) |  (refine ZWF (dst:=some 11) ZTD (ZBd rfl rfl) fun b11=>?_;dsimp only[ZC,z0,z1]) |  (refine ZR ZAz rfl (ZVh rfl) Z1 ?_;dsimp only[ZC,z0,z1])|((first|apply ZF|apply WD.op);(focus (first|exact wN|(apply ZVt;exact wY;((first|(apply ZVm (cE) Tryz.call33;exact aD)|(apply ZVm (cS) Tryz.call20;exact aD)|(apply ZVm cC Tryz.call23;exact ZV9 (ZWD rfl (ZFn trivial)) (ZV9 (ZVh rfl) (ZV9 ZV5 ZWJ)))|(apply ZVm cW Tryz.call23;exact ZV9 (ZWD rfl (ZFn trivial)) (ZV9 (ZVh rfl) (ZV9 ZV5 ZWJ)))|(apply ZVm cV Tryz.call27;exact ZV9 (ZWD rfl (ZFn trivial)) (ZV9 (ZVh rfl) (ZV9 (ZVh rfl) ZWJ)))|(apply ZVm cX Tryz.call27;exact ZV9 (ZWD rfl (ZFn trivial)) (ZV9 (ZVh rfl) (ZV9 (ZVh rfl) ZWJ)))|(apply ZVm c3 Tryz.call15;exact ZV9 (ZVh rfl) (ZV9 (ZVh rfl) ZWJ))|(apply ZVm c1 Tryz.call15;exact ZV9 (ZVh rfl) (ZV9 (ZVh rfl) ZWJ))|(apply ZVm (cU) Tryz.call11;exact aD)|(apply ZVm (q1) Tryz.call34;exact aD)|(apply ZVm (q2) Tryz.call25;exact aD)|(apply ZVm (q3) Tryz.call17;exact aD)|(apply ZVy;exact ZQy;exact ZVh rfl)|(apply ZVy;exact ZAz;exact ZVh rfl)|(exact ZBB tyC (ZVh rfl))|(apply ZVy;exact ZQx;exact ZVh rfl)|(refine ZW ZJK (ZVh rfl) ZFx rfl rfl)|(exact ZOA ZUT (Nat.le_refl 1) (ZVh rfl))|(refine ZW ZAp (ZVh rfl) ZAA rfl rfl)|(exact ZTQ (ZVh rfl) (ZVh rfl))|(exact ZWb (R:=Zh) (_gR:=inferInstance) (els:=eL) ZAK (Zp (ZVh rfl) (Zp (ZVh rfl) Zr)) rfl rfl (fun _=>ZAI) (Nat.le_of_ble_eq_true rfl))|(exact ZOP (R:=RV) (_gR:=inferInstance) (xs:=eV) (ys:=[(0,1)]) (l:=1) elV rfl (by decide) (ZVh rfl) ZV5)|(exact ZON (R:=ZI) (_gR:=inferInstance) (xs:=eF) (ys:=[[(0,3),(1,2)]]) (l:=1) (h:=2) ZB8 rfl (by decide) (by decide) (ZVh rfl) ZV5 ZV5)|(exact ZQ3 (ZVh rfl) (ZVh rfl))|(exact ZOK (q:=3) (b:=false) (by rw[r1];rfl) (ZVh rfl) ZV5)|(exact ZOK (p:=0) (q:=0) (b:=false) rfl (ZVh rfl) ZV5)|(exact ZEb (p:=0) (q:=0) (b:=true) rfl (ZVh rfl) ZV5)|(exact ZEb (p:=18) (q:=18) (b:=true) rfl (ZVh rfl) ZV5)|(exact ZDO (ZVh rfl))|exact yG|(apply ZWb;exact eD;((try simp only[List.map_cons,List.map_nil]);(repeat (first|exact Zr|(apply Zp;(first|exact ZVh rfl|exact ZV5|exact ZWE|exact ZWD rfl (by first|exact ZN|exact ZJ (by decide))|exact⟨ZN⟩|exact⟨ZJ (by decide)⟩)))));rfl;rfl;(intro _;first|exact ZAd|exact ZAS|exact ZAI|exact shape_B);(exact(by simp)))|fail);all_goals infer_instance))));dsimp only[ZC,z0,z1])|((first|refine ZM rfl rfl rfl (fun h=>?_) (fun h=>?_)|refine ZL rfl rfl rfl (fun h=>?_) (fun h=>?_)|refine ZK rfl rfl rfl (fun h=>?_) (fun h=>?_)|refine Za rfl rfl rfl (fun h=>?_) (fun h=>?_)|refine ZX rfl rfl rfl (fun h=>?_) (fun h=>?_)|refine ZV rfl rfl rfl (fun h=>?_) (fun h=>?_)) <;> (first|(exfalso;first|omega|contradiction)|(dsimp only[z0,z1])))|(apply ZQ;exact oD;(with_reducible rfl))|refine ZVr ?_|refine ZVs ?_));all_goals ((repeat clear hK);repeat clear Kx))
 all_goals try exact xO
 (refine⟨trivial,_,rfl,?_⟩;exact fD)
end
section
open Go.RowKit
theorem ZSt:ElT Tryz.prog 69 25 2 (.agg #[.slice none 0 0,.slice none 0 0]) 48 true:=⟨Tryz.underlying69,by kernel_rfl,Tryz.isAgg25,rfl⟩
def ZTo (L:List Lb):Bool:=L.all fun x=>ZNP x.1 x.2
def ZLp (l:Cx):Nat:=(l.map fun s=>2 ^ (min s.length 10)).sum
def ZRS (l:Cx):Int:=l.foldl (fun a s=>IntKind.i64.wrap (a+ZRt 1 ((min s.length 10:Nat):Int))) 0
def ZLV (l:Cx) (L:List Lb):Bool:=ZTo L && (ZBY l && decide (ZRS l≤400))
theorem ZJo {l:Cx} {k:Nat} (h:k<l.length):ZRS (l.take (k+1))=IntKind.i64.wrap (ZRS (l.take k)+ZRt 1 ((min l[k].length 10:Nat):Int)):=by
 unfold ZRS;rw[List.take_succ_eq_append_getElem h,List.foldl_append];rfl
theorem min10 (m:Nat):(if(10:Int)<(m:Int) then(10:Int) else(m:Int))=((min m 10:Nat):Int):=by split <;> omega
theorem two11:∀k:Fin 11,ZRt 1 (k.val:Int)=((2 ^ k.val:Nat):Int)/\2 ^ k.val≤1024:=by decide +kernel
theorem ZNt {l:Cx} {k:Nat} (h:k<l.length):ZLp (l.take (k+1))=ZLp (l.take k)+2 ^ (min l[k].length 10):=by
 unfold ZLp;rw[List.take_succ_eq_append_getElem h,List.map_append,List.sum_append];simp
theorem ZST {l:Cx} (h:ZBY l=true):ZLp l=ZF8 l:=by
 unfold ZBY at h;simp only[Bool.and_eq_true,List.all_eq_true,decide_eq_true_eq] at h;unfold ZLp ZF8;congr 1;exact List.map_congr_left fun s hs=>by rw[Nat.min_eq_left (h.2 s hs)]
theorem ZMA {l:Cx} (hl:l.length≤30):∀j,j≤l.length->ZRS (l.take j)=((ZLp (l.take j):Nat):Int)/\ZLp (l.take j)≤1024*j
 | 0,_=>⟨rfl,Nat.le_refl _⟩
 | j+1,h=>by
  obtain⟨h1,h2⟩:=ZMA hl j (by omega);obtain⟨m,hm⟩:∃m,min l[j].length 10=m:=⟨_,rfl⟩;obtain⟨t1,t2⟩:=two11 ⟨m,by omega⟩;simp only at t1 t2;rw[ZJo h,ZNt h,hm,h1,t1];obtain⟨q,hq⟩:∃q,2 ^ m=q:=⟨_,rfl⟩;rw[hq] at t2 ⊢;rw[ZCq (by omega)];omega
theorem ZRT {l:Cx} (h:ZBY l=true):ZRS l=((ZF8 l:Nat):Int):=by
 have h30:l.length≤30:=ZLW h;have:=(ZMA h30 l.length (Nat.le_refl _)).1;rw[List.take_length] at this;rw[this,ZST h]
theorem ZJ6 {l:Cx} {L:List Lb} (h:ZLV l L=true):ZTo L=true/\ZBY l=true/\ZF8 l≤400:=by
 unfold ZLV at h;simp only[Bool.and_eq_true,decide_eq_true_eq] at h;have:=ZRT h.2.1;exact⟨h.1,h.2.1,by omega⟩

theorem ZTL {P:Program} {ops:Array Oper} {hp:List HObj} {fr:List Dat} {dst:Option Tmp} {ty:TypeId} {ps:String} {af:Array Edge} {g:Option (Nat × Bool)} {T T2:TypeId} {x y:Operand} {p q c:Int} (e:IntKind.i64.wrap (p+q)=c) (hx:OpD fr x (dI p)) (hy:OpD fr y (dI q)):SY P ops hp ⟨dst,.binOp .add T x y T2,ty,ps,af,g⟩ fr (dI c):=e ▸ ZAr hx hy (fun w=>by simp[Go.binOp,Op.intArith]) fun _ _=>rfl
theorem ZQ7 {P:Program} {ops:Array Oper} {hp:List HObj} {fr:List Dat} {dst:Option Tmp} {ty:TypeId} {ps:String} {af:Array Edge} {g:Option (Nat × Bool)} {x y:Operand} {m n c:Int} {ats:Array TypeId} (h:(if n<m then n else m)=c) (hx:OpD fr x (dI m)) (hy:OpD fr y (dI n)):SY P ops hp ⟨dst,.call { callee:=.builtin .min,args:=#[x,y],argTypes:=ats },ty,ps,af,g⟩ fr (dI c):=h ▸ ZTO hx hy
theorem ZPR (l:Cx) (L:List Lb):Fn Tryz.prog 9 [dS Cpx l,dS (ArrK 2 Lab) L] (dB (ZLV l L)):=by
 obtain⟨o,ho⟩:∃o,ZLV l L=o:=⟨_,rfl⟩;rw[ho];unfold ZLV ZTo at ho;have cC:=ZU7 l;refine zE Tryz.func9 40 ?_;(first|refine ZP (t:=0) rfl ZEG fun hl0=>?_|refine ZP (t:=0) rfl ZDu fun hl0=>?_|refine ZP (t:=0) rfl ZJS fun hl0=>?_);simp only[maxLen] at hl0
 (first|refine ZP (t:=1) rfl ZEG fun hl1=>?_|refine ZP (t:=1) rfl ZDu fun hl1=>?_|refine ZP (t:=1) rfl ZJS fun hl1=>?_);simp only[maxLen] at hl1
 (repeat' (first|refine zS ?_|refine ZA fun Kx hK=>?_|(refine hK _ _ ?_;clear hK)|(apply ZF;(focus (first|exact wN|(apply ZVt;exact wY;((first|(exact ZV3 (ZVh rfl) ZAL)|(apply ZVu;exact ZVh rfl;exact ZDw;exact ZSt.unt)|fail);all_goals infer_instance))));dsimp only[ZC,z0,z1])|refine ZVp ?_))
 all_goals try exact xO
 (refine ZV4 (X:=Nat) (fun k=>[(12,dI (k:Int)),(4,dA),(6,dA),(13,dA),(14,dA),(15,dA),(16,dA),(17,dA),(18,dA),(19,dA)]) (fun k=>[]) (fun k=>L.length-k) (fun k=>k≤L.length/\(((L.drop k).all fun x=>ZNP x.1 x.2) && (ZBY l && decide (ZRS l≤400)))=o) 0 ?start ?frame0 ?objs0 ?round)
 case start=>exact⟨Nat.zero_le _,ho⟩
 case frame0=>exact zFr
 case objs0=>rfl
 case round =>
  rintro k ⟨hk,hE⟩;dsimp only[ZH,z0,z1];by_cases hkl:k<L.length
  ·have hkI:(k:Int)<(L.length:Int):=by omega
   have c1:=ZTn L[k].1 L[k].2;rw[List.drop_eq_getElem_cons hkl,List.all_cons] at hE;cases hf:ZNP L[k].1 L[k].2 with
   | false =>
    rw[hf] at c1;rw[hf,Bool.false_and,Bool.false_and] at hE;subst hE;((repeat' (first|(apply zV;exact yF;exact zQ)|refine ZVj ?_|refine ZA fun Kx hK=>?_|(refine hK _ _ ?_;clear hK)|refine ZVk ?_ |  (refine ZWF (dst:=some 6) ZTD (ZBd rfl rfl) fun b6=>?_;dsimp only[ZC,z0,z1]) |  (refine ZR ZAz rfl (ZVh rfl) Z1 ?_;dsimp only[ZC,z0,z1])|(apply ZF;(focus (first|exact wN|(apply ZVt;exact wY;((first|(refine Zy (R:=Lab) (_gR:=inferInstance) ZSt (ZVh rfl) (ZVh rfl) hkl)|(apply ZVy;exact ZAz;exact ZVh rfl)|(apply ZVm (c1) Tryz.call31;exact aD)|exact yG|fail);all_goals infer_instance))));dsimp only[ZC,z0,z1])|(apply ZB;exact oD;all_goals (intro h;try exact xD))|(apply ZO;exact oD;all_goals (intro h;try exact xD))|refine ZVr ?_|refine ZVs ?_|refine ZVp ?_|refine ZVz ?_|refine ZWC ?_));all_goals ((repeat clear hK);repeat clear Kx))
    all_goals try exact xO
    (refine⟨trivial,_,rfl,?_⟩;exact fD)
   | true =>
    rw[hf] at c1;rw[hf,Bool.true_and] at hE;((repeat' (first|(apply zV;exact yF;exact zQ)|refine ZVj ?_|refine ZA fun Kx hK=>?_|(refine hK _ _ ?_;clear hK)|refine ZVk ?_ |  (refine ZWF (dst:=some 6) ZTD (ZBd rfl rfl) fun b6=>?_;dsimp only[ZC,z0,z1]) |  (refine ZR ZAz rfl (ZVh rfl) Z1 ?_;dsimp only[ZC,z0,z1])|(apply ZF;(focus (first|exact wN|(apply ZVt;exact wY;((first|(refine Zy (R:=Lab) (_gR:=inferInstance) ZSt (ZVh rfl) (ZVh rfl) hkl)|(apply ZVy;exact ZAz;exact ZVh rfl)|(apply ZVm (c1) Tryz.call31;exact aD)|exact yG|fail);all_goals infer_instance))));dsimp only[ZC,z0,z1])|(apply ZB;exact oD;all_goals (intro h;try exact xD))|(apply ZO;exact oD;all_goals (intro h;try exact xD))|refine ZVr ?_|refine ZVp ?_|refine ZVx ?_));all_goals ((repeat clear hK);repeat clear Kx))
    all_goals try exact xO
    (refine zNx (k+1) ?_;(try dsimp only))
    exact⟨hkl,hE⟩
  ·have hkI:¬ (k:Int)<(L.length:Int):=by omega
   rw[List.drop_of_length_le (by omega),List.all_nil,Bool.true_and] at hE;(repeat' (first|refine zS ?_|refine ZA fun Kx hK=>?_|(refine hK _ _ ?_;clear hK)|(refine ZV0 ?_;clear hK)|(apply ZF;(focus (first|exact wN|(apply ZVt;exact wY;((first|(apply ZDM ZNz;exact ZVh rfl)|((first|apply ZVo|apply ZVn|apply ZVq|apply ZWT|apply ZVw) <;> exact oD)|(apply ZVu;exact oD;exact nD;exact uD)|fail);all_goals infer_instance))));dsimp only[ZC,z0,z1])|(apply ZB;exact oD;all_goals (intro h;try exact xD))|refine ZV1 ?_|refine ZVp ?_))
   all_goals try exact xO
   (refine ZV4 (X:=Nat) (fun j=>[(23,dI (j:Int)),(7,dI (ZRS (l.take j))),(9,dA),(24,dA),(25,dA),(26,dA),(27,dA),(28,dA),(29,dA),(30,dA),(31,dA),(32,dA),(33,dA)]) (fun j=>[]) (fun j=>l.length-j) (fun j=>j≤l.length) 0 ?start ?frame0 ?objs0 ?round)
   case start=>exact Nat.zero_le _
   case frame0=>exact zFr
   case objs0=>rfl
   case round =>
    rintro j hj;dsimp only[ZH,z0,z1];by_cases hjl:j<l.length
    ·have hjI:(j:Int)<(l.length:Int):=by omega
     obtain⟨m,hm⟩:∃m,min l[j].length 10=m:=⟨_,rfl⟩;have e1:(if(10:Int)<(l[j].length:Int) then(10:Int) else(l[j].length:Int))=(m:Int):=by rw[<- hm];exact min10 _
     have hm10:m≤10:=by omega
     have hsn:=ZJo hjl;rw[hm] at hsn;((repeat' (first|refine zS ?_|refine ZA fun Kx hK=>?_|(refine hK _ _ ?_;clear hK)|(apply ZF;(focus (first|exact wN|(apply ZVt;exact wY;((first|(refine ZV8 (R:=ZI) (_gR:=inferInstance) ZB8 (ZVh rfl) (ZVh rfl) hjl)|(exact ZQ7 e1 (ZVh rfl) ZV5)|(exact ZTL hsn.symm (ZVh rfl) (ZVh rfl))|exact yG|((first|apply SY.shl) <;> first|exact oD|assumption|omega)|fail);all_goals infer_instance))));dsimp only[ZC,z0,z1])|(apply ZB;exact oD;all_goals (intro h;try exact xD))|refine ZVr ?_|refine ZVp ?_|refine ZVx ?_));all_goals ((repeat clear hK);repeat clear Kx))
     all_goals try exact xO
     (refine zNx (j+1) ?_;(try dsimp only))
     exact hjl
    ·have hjI:¬ (j:Int)<(l.length:Int):=by omega
     obtain rfl:j=l.length:=by omega
     rw[List.take_length];cases hfa:ZBY l with
     | false =>
      rw[hfa] at cC hE;rw[Bool.false_and] at hE;subst hE;((repeat' (first|refine zS ?_|refine ZA fun Kx hK=>?_|(refine hK _ _ ?_;clear hK)|(refine ZV0 ?_;clear hK)|(apply ZF;(focus (first|exact wN|(apply ZVt;exact wY;((first|(apply ZVm (cC) Tryz.call32;exact aD)|exact yG|fail);all_goals infer_instance))));dsimp only[ZC,z0,z1])|(apply ZB;exact oD;all_goals (intro h;try exact xD))|refine ZVs ?_|refine ZV1 ?_));all_goals ((repeat clear hK);repeat clear Kx))
      all_goals try exact xO
      (refine⟨trivial,_,rfl,?_⟩;exact fD)
     | true =>
      rw[hfa] at cC hE;rw[Bool.true_and] at hE;by_cases h4:ZRS l≤400
      ·rw[decide_eq_true h4] at hE;subst hE;((repeat' (first|refine zS ?_|refine ZA fun Kx hK=>?_|(refine hK _ _ ?_;clear hK)|(refine ZV0 ?_;clear hK)|(apply ZF;(focus (first|exact wN|(apply ZVt;exact wY;((first|(apply ZVm (cC) Tryz.call32;exact aD)|exact yG|fail);all_goals infer_instance))));dsimp only[ZC,z0,z1])|(apply ZB;exact oD;all_goals (intro h;try exact xD))|refine ZVs ?_|refine ZV1 ?_));all_goals ((repeat clear hK);repeat clear Kx))
       all_goals try exact xO
       (refine⟨trivial,_,rfl,?_⟩;refine ZWL ?_)
       all_goals simp_all
      ·rw[decide_eq_false h4] at hE;subst hE;((repeat' (first|refine zS ?_|refine ZA fun Kx hK=>?_|(refine hK _ _ ?_;clear hK)|(refine ZV0 ?_;clear hK)|(apply ZF;(focus (first|exact wN|(apply ZVt;exact wY;((first|(apply ZVm (cC) Tryz.call32;exact aD)|exact yG|fail);all_goals infer_instance))));dsimp only[ZC,z0,z1])|(apply ZB;exact oD;all_goals (intro h;try exact xD))|refine ZVs ?_|refine ZV1 ?_));all_goals ((repeat clear hK);repeat clear Kx))
       all_goals try exact xO
       (refine⟨trivial,_,rfl,?_⟩;refine ZWL ?_)
       all_goals simp_all
end
section
open Go.ChangeShapes Go.WideShapes Go.ChangeAt Go.RowKit

theorem own:ownKnob Tryz.prog.godebug=none:=by kernel_rfl
theorem ZTx:laidOutB Tryz.prog=true:=by kernel_rfl
theorem ZUz:Tryz.prog.cellsOf 77=2:=by kernel_rfl
theorem ZJy:Tryz.prog.cellsOf 22=1:=by kernel_rfl
theorem ZMG:Tryz.prog.cellsOf 3=1:=by kernel_rfl

section
variable {H:Type} {enc:TypeId × Value->H}
theorem ZMf {w:World} {fuel:Nat} {v:Value} {x:DataW H × List MemPlace} (h:DataW.trod enc Tryz.prog w 0 (fun _=>true) true fuel 22 [v]=some x) :
  ∃xs,ZI anyB w v xs:=by
 rcases Deep.open_slice_pairs Tryz.underlying22 Tryz.underlying77 ZUz rfl rfl ZMG ZMG h with ⟨hc,_⟩|⟨a,len,cap,m,n,V0,V1,D0,D1,P0,P1,hc,_,hl,hm,hmm,_,hx⟩
 ·obtain rfl:v = .slice none 0 0:=by simpa using hc
  exact⟨[],ZGZ (by decide)⟩
 ·obtain rfl:v = .slice (some a) len cap:=by simpa using hc
  simp only[if_true] at hmm;subst hmm;have hz:∀i,∃p:Int × Int,i<m->V0 i = .int .i64 p.1/\V1 i = .int .i64 p.2:=fun i=>by
   by_cases hi:i<m
   ·obtain⟨_,_,h2,h3⟩:=hx i hi;obtain⟨p,hp,_⟩:=DataW.trod_int Tryz.underlying3 h2;obtain⟨q,hq,_⟩:=DataW.trod_int Tryz.underlying3 h3;exact⟨(p,q),fun _=>⟨by simpa using hp,by simpa using hq⟩⟩
   ·exact⟨(0,0),fun h=>absurd h hi⟩
  obtain⟨z,hz⟩:=Classical.axiomOfChoice hz;have hlen:((List.range len).map z).length=len:=by simp
  refine⟨(List.range len).map z,some a,m,by rw[hlen],by rw[hlen];exact hl,hm,by decide,fun k hk=>?_⟩;rw[hlen] at hk;obtain⟨h0,h1,_⟩:=hx k (by omega);have hs:=World.cell?_spot (hx 0 (by omega)).1;obtain⟨b,off,sp⟩:=a;obtain rfl:sp=none:=by simpa[Addr.add] using hs
  obtain⟨e0,e1⟩:=hz k (by omega);refine⟨[.int .i64 (z k).1,.int .i64 (z k).2],b,off,by simp[RV],rfl,by simp[Value.oneCell'],rfl,trivial,fun j c hc=>?_⟩;rw[Addr.add_lit] at h0 h1
  match j,hc with
  | 0,hc=>cases hc;rw[Nat.add_zero,<- e0];exact h0
  | 1,hc=>cases hc;rw[<- e1,Nat.add_assoc];exact h1
theorem open_V' {w:World} {r:Reach} {b0:Nat} {v:Value} {d:DataW H} {ps:List MemPlace} (hv:Value.okWide Tryz.prog w r b0 22 v) (h:DataW.Trod enc Tryz.prog w 0 (fun _=>true) true 22 v d ps):∃xs,(dS ZI xs).rd anyB w v:=by
 obtain⟨fuel,h⟩:=h;obtain⟨a,len,cap,rfl⟩:=okWide_slice Tryz.underlying22 hv;exact ZMf h
theorem ZPp {w:World} {fuel:Nat} {v:Value} {x:DataW H × List MemPlace} (h:DataW.trod enc Tryz.prog w 0 (fun _=>true) true fuel 27 [v]=some x) :
  ∃xs,Zh anyB w v xs:=by
 rcases Deep.open_slice1 Tryz.underlying27 ZJy h with ⟨hc,_⟩|⟨a,len,cap,m,n,V,D,Pl,hc,_,hl,hm,hmm,_,hx⟩
 ·obtain rfl:v = .slice none 0 0:=by simpa using hc
  exact⟨[],ZB5⟩
 ·obtain rfl:v = .slice (some a) len cap:=by simpa using hc
  simp only[if_true] at hmm;subst hmm;have hz:∀i,∃xs:List (Int × Int),i<m->ZI anyB w (V i) xs:=fun i=>by
   by_cases hi:i<m
   ·obtain⟨xs,h1⟩:=ZMf (hx i hi).2;exact⟨xs,fun _=>h1⟩
   ·exact⟨[],fun h=>absurd h hi⟩
  obtain⟨z,hz⟩:=Classical.axiomOfChoice hz;have hlen:((List.range len).map z).length=len:=by simp
  refine⟨(List.range len).map z,some a,m,by rw[hlen],by rw[hlen];exact hl,hm,fun k hk=>?_⟩;rw[hlen] at hk;obtain⟨h0,_⟩:=hx k (by omega);have hs:=World.cell?_spot (hx 0 (by omega)).1;obtain⟨b,off,sp⟩:=a;obtain rfl:sp=none:=by simpa[Addr.add] using hs
  have hv:=hz k (by omega);refine⟨V k,b,off,by simpa using hv,?_,rfl,trivial,by rw[Addr.add_lit] at h0;exact h0⟩;obtain⟨a',c',hv',_⟩:=hv;rw[hv'];rfl
theorem open_S' {w:World} {r:Reach} {b0:Nat} {v:Value} {d:DataW H} {ps:List MemPlace} (hv:Value.okWide Tryz.prog w r b0 27 v) (h:DataW.Trod enc Tryz.prog w 0 (fun _=>true) true 27 v d ps):∃xs,(dS Zh xs).rd anyB w v:=by
 obtain⟨fuel,h⟩:=h;obtain⟨a,len,cap,rfl⟩:=okWide_slice Tryz.underlying27 hv;exact ZPp h
end

section
variable {H:Type} {enc:TypeId × Value->H}

theorem ZJq {W W':World} (hE:Ext W W'):∀ {ts:List TypeId} {vs:List Value} {ds:List (DataW H)} {ps:List MemPlace},(∀t∈ts,Tryz.prog.readableRec t=true/\t<Tryz.prog.types.size)->(∀p∈ps,p.block<W.heap.size) ->
  DataW.TrodAll enc Tryz.prog W 0 (fun _=>true) true ts vs ds ps->DataW.TrodAll enc Tryz.prog W' 0 (fun b=>decide (b<W.heap.size)) true ts vs ds ps
 | [],_,_,_,_,_,h=>by
  obtain⟨rfl,rfl,rfl⟩:=trodAll_nil h;exact trodAll_mk0
 | t::ts,_,_,_,ht,hlt,h=>by
  obtain⟨v,vs1,d,ds1,a,b,rfl,rfl,rfl,h1,h2⟩:=trodAll_cons h;exact trodAll_cons_mk (Below.trod ZTx (ht t (by simp)).1 (ht t (by simp)).2 h1 hE (fun x hx=>hlt x (by simp[hx]))) (ZJq hE (fun t' h'=>ht t' (by simp[h'])) (fun p hp=>hlt p (by simp[hp])) h2)

theorem post_law {f:Func} {s:ChangeSpec} {W W':World} {args:Array Value} {ds gs:List (DataW H)} {before:List MemPlace} (hW:DataW.Whole enc Tryz.prog f.params.toList s.vars false W args.toList ds gs before) (hvars:s.vars=[])
  (hr:f.resultTypes=#[4]) (hs:s.fn H ds={ results:=[.lit (.bool true)],args:=ds }) (ht:∀t∈f.params.toList,Tryz.prog.readableRec t=true/\t<Tryz.prog.types.size) (hE:Ext W W') :
  s.post enc Tryz.prog f false true false false W args (.bool true) W':=by
 have hlt:=hW.lt;have hW':=hW;obtain⟨p,q,hA,hV,rfl,hfz,hnd⟩:=hW;rw[hvars] at hV;obtain⟨rfl,rfl⟩:=trodVars_none hV;refine⟨ds,[],p++[],[],p,[],hW',?_,?_,?_,hE.frame _,fun h=>by cases h⟩
 ·rw[hr,List.append_nil,hs];exact trodAll_mk1 (shut_bool Tryz.underlying4 true)
 ·rw[List.append_nil,hs];exact ZJq hE ht (fun x hx=>hlt x (by simp[hx])) hA
 ·rw[hvars,List.append_nil,hs];rfl
theorem fn_law {f:FuncId} {ds:List Dat} (hF:Fn Tryz.prog f ds (dB true)) {W:World} {vs:List Value} (hl:vs.length=ds.length) (h:∀(i:Nat) (d:Dat),ds[i]?=some d->d.rd anyB W (vs.getD i undef)) :
  Calls Tryz.prog f vs.toArray W fun e W'=>e = .returned (.bool true)/\Ext W W' :=
 (hF.out anyB W vs hl h).mono fun _ _ ⟨_,h1,h2,h3⟩=>by cases (h3:_=_);exact⟨h1,h2⟩
end
end
section
open Go.ChangeShapes Go.WideShapes Go.ChangeAt Go.RowKit
section
variable {H:Type} {enc:TypeId × Value->H}
theorem ZUy:Tryz.prog.cellsOf 29=1:=by kernel_rfl
theorem ZOz:Tryz.prog.cellsOf 27=1:=by kernel_rfl
theorem open_C' {w:World} {r:Reach} {b0:Nat} {v:Value} {d:DataW H} {ps:List MemPlace} (hv:Value.okWide Tryz.prog w r b0 29 v) (h:DataW.Trod enc Tryz.prog w 0 (fun _=>true) true 29 v d ps):∃xs,(dS Cpx xs).rd anyB w v:=by
 obtain⟨fuel,h⟩:=h;obtain⟨cs,rfl,hcs⟩:=okWide_struct Tryz.underlying29 hv;rw[ZUy] at hcs;obtain⟨u,rfl⟩:=Array.size_eq_one_iff.1 hcs;obtain⟨y0,n,hy,hl,h0⟩:=trod_struct1 Tryz.underlying29 h;have h0':DataW.trod enc Tryz.prog w 0 (fun _=>true) true n 27 [u]=some y0:=by
  have e:Tryz.prog.cellsOf 27=1:=ZOz;simpa[Value.cells,e] using h0
 obtain⟨xs,hx⟩:=ZPp h0';refine⟨xs,u,rfl,?_,hx⟩;obtain⟨a,c,hu,_⟩:=hx;rw[hu];rfl
end
end
end Go.Proofs.YtofkoleingbbpaaGreatDoor
