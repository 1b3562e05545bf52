/- Part 44: walks by contracts, and plain laws. -/
import Derived.Test.YtokmalofdapffaaGreatV43
set_option linter.unusedVariables false
set_option linter.unusedSimpArgs false
set_option linter.unusedSectionVars false
set_option maxRecDepth 100000
set_option maxHeartbeats 4000000
namespace Go.Proofs.YtokmalofdapffaaGreat
section
open Go.RowKit
def ZJV (l:Cx):Int:=l.foldl (fun a s=>IntKind.i64.wrap (a+ishl 1 ((min s.length 10:Nat):Int))) 0
def ZJz (l:Cx):Nat:=(l.map fun s=>2 ^ (min s.length 10)).sum
theorem ZGK {l:Cx} {k:Nat} (h:k<l.length):ZJV (l.take (k+1))=IntKind.i64.wrap (ZJV (l.take k)+ishl 1 ((min l[k].length 10:Nat):Int)):=by
 unfold ZJV
 rw [List.take_succ_eq_append_getElem h,List.foldl_append]
 rfl
theorem min58 (m:Nat):(if (10:Int)<(m:Int) then (10:Int) else (m:Int))=((min m 10:Nat):Int):=by split <;> omega
theorem two58:∀ k:Fin 11,ishl 1 (k.val:Int)=((2 ^ k.val:Nat):Int)/\2 ^ k.val≤1024:=by decide +kernel
theorem ZLx {l:Cx} {k:Nat} (h:k<l.length):ZJz (l.take (k+1))=ZJz (l.take k)+2 ^ (min l[k].length 10):=by
 unfold ZJz
 rw [List.take_succ_eq_append_getElem h,List.map_append,List.sum_append]
 simp
theorem ZIM {l:Cx} (hl:l.length≤30):∀ j,j≤l.length->ZJV (l.take j)=((ZJz (l.take j):Nat):Int)/\ZJz (l.take j)≤1024*j
 | 0,_=>⟨rfl,Nat.le_refl _⟩
 | j+1,h=>by
  obtain ⟨h1,h2⟩:=ZIM hl j (by omega)
  obtain ⟨m,hm⟩:∃ m,min l[j].length 10=m:=⟨_,rfl⟩
  obtain ⟨t1,t2⟩:=two58 ⟨m,by omega⟩
  simp only at t1 t2
  rw [ZGK h,ZLx h,hm,h1,t1]
  obtain ⟨q,hq⟩:∃ q,2 ^ m=q:=⟨_,rfl⟩
  rw [hq] at t2 ⊢
  rw [ZF2 (by omega)]
  omega
theorem ZSn {l:Cx} (h:ZCk l=true):l.length≤30/\∀ s∈l,s.length≤10:=by
 unfold ZCk at h
 simp only [Bool.and_eq_true,List.all_eq_true,decide_eq_true_eq] at h
 exact h
def ZGa (l:Cx):Bool:=ZCk l && (decide (ZJV l≤300) && decide (ZA8 l=0))
theorem ZN1 {l:Cx} (h:ZGa l=true):GoodX l/\Zz l 8≤300/\l.length≤30:=by
 unfold ZGa at h
 simp only [Bool.and_eq_true,decide_eq_true_eq] at h
 obtain ⟨h1,h2,h3⟩:=h
 obtain ⟨k1,k2⟩:=ZSn h1
 have G:=Zr.1 h3
 have h4:=(ZIM k1 l.length (Nat.le_refl _)).1
 rw [List.take_length] at h4
 have h5:ZJz l=ZSC l:=by
  unfold ZJz ZSC
  congr 1
  exact List.map_congr_left fun s hs=>by rw [Nat.min_eq_left (k2 s hs)]
 have h6:=ZOd G.2.2.1
 exact ⟨G,by omega,k1⟩
theorem ZE7 {l:Cx} (G:GoodX l) (hw:Zz l 8≤4096) (k:Nat):(Zs l k).length≤4096:=by
 by_cases h1:1≤k/\k≤8
 ·obtain ⟨j,rfl⟩:∃ j,k=j+1:=⟨k-1,by omega⟩
  have h4:∀ n,j<n->(Zs l (j+1)).length≤Zz l n:=fun n=>by
   induction n with
   | zero=>intro h;omega
   | succ n ih =>
    intro h
    rw [ZA3]
    by_cases e:j=n
    ·subst e;omega
    ·have:=ih (by omega);omega
  have:=h4 8 (by omega)
  omega
 ·by_cases h0:k=0
  ·subst h0
   have:(Zs l 0).length≤(l.map fun _=>([]:List Vx)).length:=List.Nodup.length_le_of_subset (ZA0 l 0).nodup fun x hx=>by
    obtain ⟨f,hf,_⟩:=ZAr.1 hx
    have:=ZCK hx
    rw [List.length_eq_zero_iff.1 this]
    exact List.mem_map.2 ⟨f,hf,rfl⟩
   rw [List.length_map] at this
   have:=G.1
   omega
  ·have:Zs l k=[]:=List.eq_nil_iff_forall_not_mem.2 fun c hc=>by
    obtain ⟨f,hf,hs⟩:=ZES hc
    have h1:=(Zf (G.2.2.1 f hf)).2
    have h2:=hs.length_le
    have h3:=ZCK hc
    omega
   rw [this]
   exact Nat.zero_le _
section
variable {P:Program} {ops:Array Oper} {hp:List HObj} {fr:List Dat} {dst:Option Tmp} {ty:TypeId} {ps:String} {af:Array Edge} {g:Option (Nat × Bool)} {T T2:TypeId}
theorem ZMD {x y:Operand} {p q c:Int} (e:IntKind.i64.wrap (p+q)=c) (hx:OpD fr x (dI p)) (hy:OpD fr y (dI q)):SY P ops hp ⟨dst,.binOp .add T x y T2,ty,ps,af,g⟩ fr (dI c):=e ▸ ZBO hx hy (fun w=>by simp [Go.binOp,Op.intArith]) fun _ _=>rfl
theorem ZJ8 {x y:Operand} {m n c:Int} {ats:Array TypeId} (h:(if n<m then n else m)=c) (hx:OpD fr x (dI m)) (hy:OpD fr y (dI n)):SY P ops hp ⟨dst,.call { callee:=.builtin .min,args:=#[x,y],argTypes:=ats },ty,ps,af,g⟩ fr (dI c):=h ▸ ZMJ hx hy
theorem ZOw {α:Type} {R:Rel α} {xs:List α} {x y:Operand} {l:Nat} {t e:TypeId} {bytes:Nat} {z:Value} {ag:Bool} (E:ElT P t e 1 z bytes ag) {_gR:Good R} (hl:l≤xs.length) (hx:OpD fr x (dS (Arr R) xs)) (hy:OpD fr y (dI (l:Int))):SY P ops hp ⟨dst,.slice t x none (some y) none,ty,ps,af,g⟩ fr (dS (Arr R) (xs.take l)):=by
 have:=ZBC (P:=P) (ops:=ops) (hp:=hp) (dst:=dst) (ty:=ty) (ps:=ps) (af:=af) (g:=g) (_gR:=_gR) E hx BndD.no (ZW hy rfl) (Nat.zero_le _) hl
 rwa [List.drop_zero,Nat.sub_zero] at this
theorem ZJ5 {α:Type} {R:Rel α} {_gR:Good R} {xs:List α} {x i:Operand} {t e:TypeId} {z:Value} {bytes:Nat} (E:ElT P t e 1 z bytes false) {k:Nat} {v:α} (hk:k<xs.length) (hv:xs[k]=v) (hx:OpD fr x (dS (Arr R) xs)) (hi:OpD fr i (dI (k:Int))) :
  SY P ops hp ⟨dst,.indexAddr t x i,ty,ps,af,g⟩ fr (dP 1 false (dS R v)):=hv ▸ SY.ix E hx hi hk
theorem ZFP {p q:Int} {b:Bool} {x y:Operand} (h:decide (p=q)=b) (hx:OpD fr x (dI p)) (hy:OpD fr y (dI q)):SY P ops hp ⟨dst,.binOp .eql T x y T2,ty,ps,af,g⟩ fr (dB b):=by
 have:=SY.eql (P:=P) (ops:=ops) (hp:=hp) (dst:=dst) (ty:=ty) (ps:=ps) (af:=af) (g:=g) (T:=T) (T2:=T2) hx hy
 rwa [h] at this
end

theorem ZIf (a b:List Int):Fn Tryz.prog 10 [dS ZBk a,dS ZBk b] (dB (decide (a=b))):=by
 (refine ZG Tryz.func10 rfl rfl ?_;simp only [Tryz.ntmps10,List.length_cons,List.length_nil,Nat.reduceAdd,Nat.reduceSub,List.replicate_succ,List.replicate_zero,List.cons_append,List.nil_append])
 by_cases hl:a.length=b.length
 ·have hlI:¬ (a.length:Int)≠(b.length:Int):=by omega
  (repeat' (first|((first|apply WL.opN|apply WD.opN);exact yF;dsimp only [ZB,z0,z1])|refine WL.nil ?_|refine ZA fun Kx hK=>?_|(refine hK _ _ ?_;clear hK)|refine WC.region ?_|((first|apply WL.opN|apply WD.opN);(focus ((first|((first|apply SY.move|apply SY.assign|apply SY.lss|apply SY.neq) <;> (exact oD))|(apply SY.len;(exact oD);(exact nD);(exact uD))|fail);all_goals infer_instance));dsimp only [ZB,z0,z1])|(apply WC.condN;(exact oD);all_goals (intro h;try exact xD))|refine WC.skip ?_|refine WC.block ?_))
  all_goals try (exfalso;first|contradiction|omega)
  (first|refine ZV (t:=0) rfl ZGA fun hl0=>?_|refine ZV (t:=0) rfl ZF5 fun hl0=>?_|refine ZV (t:=0) rfl ZRq fun hl0=>?_);simp only [maxLen] at hl0
  (refine ZH (X:=Nat) (fun k=>[(13,dI (k:Int)),(4,dA),(5,dA),(14,dA),(15,dA),(16,dA),(17,dA),(18,dA),(19,dA),(20,dA),(21,dA),(22,dA),(23,dA),(24,dA),(25,dA)]) (fun k=>[]) (fun k=>a.length-k) (fun k=>k≤a.length/\∀ j (hj:j<k) (h1:j<a.length) (h2:j<b.length),a[j]=b[j]) 0 ?start ?frame0 ?objs0 ?round)
  case start=>exact ⟨Nat.zero_le _,fun j hj=>absurd hj (Nat.not_lt_zero j)⟩
  case frame0=>((try dsimp only [ZQ,z0,z1]);repeat (first|exact LeF.nil|refine ZD (k:=?_)))
  case objs0=>rfl
  case round =>
   rintro k ⟨h1,h2⟩
   dsimp only [ZQ,z0,z1]
   by_cases hk:k<a.length
   ·have hlt:(k:Int)<(a.length:Int):=by omega
    have hkb:k<b.length:=by omega
    by_cases he:a[k]=b[k]
    ·have heI:¬ a[k]≠b[k]:=fun h=>h he
     ((repeat' (first|((first|apply WL.opN|apply WD.opN);exact yF;dsimp only [ZB,z0,z1])|refine WL.nil ?_|refine WD.nil ?_|refine ZA fun Kx hK=>?_|(refine hK _ _ ?_;clear hK)|refine WC.region ?_|(apply WC.draw;kernel_rfl;kernel_rfl)|((first|apply WL.opN|apply WD.opN);(focus ((first|(refine SY.ix (R:=RI) (_gR:=inferInstance) (k:=k) elI (OpD.t rfl) (OpD.t rfl) (by omega))|((first|apply SY.move|apply SY.assign|apply SY.lss|apply SY.neq) <;> (exact oD))|((first|apply SY.add) <;> first|exact oD|omega)|fail);all_goals infer_instance));dsimp only [ZB,z0,z1])|(apply WC.condD;(exact oD);all_goals (intro h;try exact xD))|(apply WC.condN;(exact oD);all_goals (intro h;try exact xD))|refine WC.skip ?_|refine WC.block ?_|refine ThenD.n ?_));all_goals (first|((repeat clear hK);(repeat clear Kx))))
     all_goals try (exfalso;first|contradiction|omega)
     (refine ⟨k+1,?_,by first|omega|(simp only;omega),rfl,?_⟩;rotate_left;((try dsimp only [ZQ,z0,z1]);repeat (first|exact LeF.nil|refine ZD (k:=?_)));(try dsimp only))
     refine ⟨by omega,fun j hj h3 h4=>?_⟩
     rcases (by omega:j<k\/j=k) with h5|rfl
     ·exact h2 j h5 h3 h4
     ·exact he
    ·((repeat' (first|((first|apply WL.opN|apply WD.opN);exact yF;dsimp only [ZB,z0,z1])|refine WL.nil ?_|refine WD.nil ?_|refine ZA fun Kx hK=>?_|(refine hK _ _ ?_;clear hK)|refine WC.region ?_|(apply WC.draw;kernel_rfl;kernel_rfl)|((first|apply WL.opN|apply WD.opN);(focus ((first|(refine SY.ix (R:=RI) (_gR:=inferInstance) (k:=k) elI (OpD.t rfl) (OpD.t rfl) (by omega))|((first|apply SY.move|apply SY.assign|apply SY.lss|apply SY.neq) <;> (exact oD))|fail);all_goals infer_instance));dsimp only [ZB,z0,z1])|(apply WC.condD;(exact oD);all_goals (intro h;try exact xD))|(apply WC.condN;(exact oD);all_goals (intro h;try exact xD))|refine WC.skip ?_|refine WC.ret ?_|refine WC.block ?_|refine ThenD.r ?_|refine InBlockD.r ?_));all_goals (first|((repeat clear hK);(repeat clear Kx))))
     all_goals try (exfalso;first|contradiction|omega)
     (refine ⟨trivial,_,rfl,?_⟩;refine FinD.b ?_)
     symm;rw [decide_eq_false_iff_not];intro e;subst e;exact he rfl
   ·have hlt:¬ (k:Int)<(a.length:Int):=by omega
    ((repeat' (first|((first|apply WL.opN|apply WD.opN);exact yF;dsimp only [ZB,z0,z1])|refine WL.nil ?_|refine ZA fun Kx hK=>?_|(refine hK _ _ ?_;clear hK)|(refine Kont.skip ?_;clear hK)|refine WC.region ?_|((first|apply WL.opN|apply WD.opN);(focus ((first|((first|apply SY.move|apply SY.assign|apply SY.lss|apply SY.neq) <;> (exact oD))|fail);all_goals infer_instance));dsimp only [ZB,z0,z1])|(apply WC.condD;(exact oD);all_goals (intro h;try exact xD))|refine WC.ret ?_|refine WC.exit ?_));all_goals (first|((repeat clear hK);(repeat clear Kx))))
    all_goals try (exfalso;first|contradiction|omega)
    (refine ⟨trivial,_,rfl,?_⟩;refine FinD.b ?_)
    symm;rw [decide_eq_true_eq];exact List.ext_getElem hl fun j h3 h4=>h2 j (by omega) h3 h4
 ·have hlI:(a.length:Int)≠(b.length:Int):=by omega
  ((repeat' (first|((first|apply WL.opN|apply WD.opN);exact yF;dsimp only [ZB,z0,z1])|refine WL.nil ?_|refine ZA fun Kx hK=>?_|(refine hK _ _ ?_;clear hK)|refine WC.region ?_|((first|apply WL.opN|apply WD.opN);(focus ((first|((first|apply SY.move|apply SY.assign|apply SY.lss|apply SY.neq) <;> (exact oD))|(apply SY.len;(exact oD);(exact nD);(exact uD))|fail);all_goals infer_instance));dsimp only [ZB,z0,z1])|(apply WC.condN;(exact oD);all_goals (intro h;try exact xD))|refine WC.ret ?_|refine ThenD.r ?_));all_goals (first|((repeat clear hK);(repeat clear Kx))))
  all_goals try (exfalso;first|contradiction|omega)
  (refine ⟨trivial,_,rfl,?_⟩;refine FinD.b ?_)
  symm;rw [decide_eq_false_iff_not];intro e;subst e;exact hl rfl
set_option maxHeartbeats 8000000 in
theorem ZQL (l:Cx):Fn Tryz.prog 5 [dS Cpx l] (dB (ZGa l)):=by
 obtain ⟨o,ho⟩:∃ o,ZGa l=o:=⟨_,rfl⟩
 rw [ho]
 unfold ZGa at ho
 have cC:=ZSm l
 have cK:=ZRW l
 (refine ZG Tryz.func5 rfl rfl ?_;simp only [Tryz.ntmps5,List.length_cons,List.length_nil,Nat.reduceAdd,Nat.reduceSub,List.replicate_succ,List.replicate_zero,List.cons_append,List.nil_append])
 (first|refine ZV (t:=0) rfl ZGA fun hl0=>?_|refine ZV (t:=0) rfl ZF5 fun hl0=>?_|refine ZV (t:=0) rfl ZRq fun hl0=>?_);simp only [maxLen] at hl0
 (repeat' (first|(apply WL.opN;exact yF;dsimp only [ZB,z0,z1])|refine WL.nil ?_|refine ZA fun Kx hK=>?_|(refine hK _ _ ?_;clear hK)|refine WC.region ?_|(apply ZF;(focus (first|exact wN|(apply SYG.yes;(exact wY);((first|(exact SY.box (OpD.t rfl) ZAT)|(apply ZAd ZA9;exact OpD.t rfl)|(apply SY.len;(exact oD);(exact nD);(exact uD))|(apply ZAd ZA9;exact OpD.t rfl)|fail);all_goals infer_instance))));dsimp only [ZB,z0,z1])|refine WC.block ?_))
 all_goals try (exfalso;first|contradiction|omega)
 (refine ZH (X:=Nat) (fun j=>[(9,dI (j:Int)),(3,dI (ZJV (l.take j))),(5,dA),(10,dA),(11,dA),(12,dA),(13,dA),(14,dA),(15,dA),(16,dA),(17,dA),(18,dA),(19,dA)]) (fun j=>[]) (fun j=>l.length-j) (fun j=>j≤l.length) 0 ?start ?frame0 ?objs0 ?round)
 case start=>exact Nat.zero_le _
 case frame0=>((try dsimp only [ZQ,z0,z1]);repeat (first|exact LeF.nil|refine ZD (k:=?_)))
 case objs0=>rfl
 case round =>
  rintro j hj
  dsimp only [ZQ,z0,z1]
  by_cases hjl:j<l.length
  ·have hjI:(j:Int)<(l.length:Int):=by omega
   obtain ⟨m,hm⟩:∃ m,min l[j].length 10=m:=⟨_,rfl⟩
   have e1:(if (10:Int)<(l[j].length:Int) then (10:Int) else (l[j].length:Int))=(m:Int):=by rw [<- hm];exact min58 _
   have hm10:m≤10:=by omega
   have hsn:=ZGK hjl
   rw [hm] at hsn
   ((repeat' (first|(apply WL.opN;exact yF;dsimp only [ZB,z0,z1])|refine WL.nil ?_|refine ZA fun Kx hK=>?_|(refine hK _ _ ?_;clear hK)|refine WC.region ?_|(apply ZF;(focus (first|exact wN|(apply SYG.yes;(exact wY);((first|(refine SY.ix (R:=ZJ) (_gR:=inferInstance) ZDv (OpD.t rfl) (OpD.t rfl) hjl)|(exact ZJ8 e1 (OpD.t rfl) OpD.i)|(exact ZMD hsn.symm (OpD.t rfl) (OpD.t rfl))|((first|apply SY.move|apply SY.assign|apply SY.lss|apply SY.leq|apply SY.eql) <;> (exact oD))|((first|apply SY.add) <;> first|exact oD|omega)|((first|apply SY.shl) <;> first|exact oD|assumption|omega)|(apply SY.len;(exact oD);(exact nD);(exact uD))|fail);all_goals infer_instance))));dsimp only [ZB,z0,z1])|(apply WC.condD;(exact oD);all_goals (intro h;try exact xD))|refine WC.skip ?_|refine WC.block ?_|refine ThenD.n ?_));all_goals (first|((repeat clear hK);(repeat clear Kx))))
   all_goals try (exfalso;first|contradiction|omega)
   (refine ⟨j+1,?_,by first|omega|(simp only;omega),rfl,?_⟩;rotate_left;((try dsimp only [ZQ,z0,z1]);repeat (first|exact LeF.nil|refine ZD (k:=?_)));(try dsimp only))
   exact hjl
  ·have hjI:¬ (j:Int)<(l.length:Int):=by omega
   obtain rfl:j=l.length:=by omega
   rw [List.take_length]
   cases hfa:ZCk l with
   | false =>
    rw [hfa] at cC ho
    rw [Bool.false_and] at ho
    subst ho
    ((repeat' (first|(apply WL.opN;exact yF;dsimp only [ZB,z0,z1])|refine WL.nil ?_|refine ZA fun Kx hK=>?_|(refine hK _ _ ?_;clear hK)|(refine Kont.skip ?_;clear hK)|refine WC.region ?_|(apply ZF;(focus (first|exact wN|(apply SYG.yes;(exact wY);((first|(apply SY.call (cC) Tryz.call14;(exact aD))|((first|apply SY.move|apply SY.assign|apply SY.lss|apply SY.leq|apply SY.eql) <;> (exact oD))|(apply Zj;(exact oD);(with_reducible rfl);(exact oD))|fail);all_goals infer_instance))));dsimp only [ZB,z0,z1])|(apply WC.condD;(exact oD);all_goals (intro h;try exact xD))|refine WC.ret ?_|refine WC.exit ?_));all_goals (first|((repeat clear hK);(repeat clear Kx))))
    all_goals try (exfalso;first|contradiction|omega)
    (refine ⟨trivial,_,rfl,?_⟩;exact fD)
   | true =>
    rw [hfa] at cC ho
    rw [Bool.true_and] at ho
    by_cases h4:ZJV l≤300
    ·rw [decide_eq_true h4,Bool.true_and] at ho
     ((repeat' (first|(apply WL.opN;exact yF;dsimp only [ZB,z0,z1])|refine WL.nil ?_|refine ZA fun Kx hK=>?_|(refine hK _ _ ?_;clear hK)|(refine Kont.skip ?_;clear hK)|refine WC.region ?_|(apply ZF;(focus (first|exact wN|(apply SYG.yes;(exact wY);((first|(apply SY.load;exact tyC;exact OpD.t rfl)|(apply SY.call (cC) Tryz.call14;(exact aD))|(apply SY.call (cK) Tryz.call15;(exact aD))|(exact ZFP ho (OpD.t rfl) OpD.i)|((first|apply SY.move|apply SY.assign|apply SY.lss|apply SY.leq|apply SY.eql) <;> (exact oD))|(apply Zn;(exact oD);(with_reducible rfl);(exact oD))|fail);all_goals infer_instance))));dsimp only [ZB,z0,z1])|((first|refine ZM rfl rfl rfl (fun h=>?_) (fun h=>?_)|refine ZL rfl rfl rfl (fun h=>?_) (fun h=>?_)|refine ZK rfl rfl rfl (fun h=>?_) (fun h=>?_)) <;> (first|(exfalso;first|omega|contradiction)|(dsimp only [z0,z1])))|(apply WC.condD;(exact oD);all_goals (intro h;try exact xD))|refine WC.ret ?_|refine WC.exit ?_));all_goals (first|((repeat clear hK);(repeat clear Kx))))
     all_goals try (exfalso;first|contradiction|omega)
     (refine ⟨trivial,_,rfl,?_⟩;exact fD)
     all_goals simp_all
    ·rw [decide_eq_false h4,Bool.false_and] at ho
     subst ho
     ((repeat' (first|(apply WL.opN;exact yF;dsimp only [ZB,z0,z1])|refine WL.nil ?_|refine ZA fun Kx hK=>?_|(refine hK _ _ ?_;clear hK)|(refine Kont.skip ?_;clear hK)|refine WC.region ?_|(apply ZF;(focus (first|exact wN|(apply SYG.yes;(exact wY);((first|(apply SY.call (cC) Tryz.call14;(exact aD))|((first|apply SY.move|apply SY.assign|apply SY.lss|apply SY.leq|apply SY.eql) <;> (exact oD))|(apply Zn;(exact oD);(with_reducible rfl);(exact oD))|(apply Zj;(exact oD);(with_reducible rfl);(exact oD))|fail);all_goals infer_instance))));dsimp only [ZB,z0,z1])|((first|refine ZM rfl rfl rfl (fun h=>?_) (fun h=>?_)|refine ZL rfl rfl rfl (fun h=>?_) (fun h=>?_)|refine ZK rfl rfl rfl (fun h=>?_) (fun h=>?_)) <;> (first|(exfalso;first|omega|contradiction)|(dsimp only [z0,z1])))|(apply WC.condD;(exact oD);all_goals (intro h;try exact xD))|refine WC.ret ?_|refine WC.exit ?_));all_goals (first|((repeat clear hK);(repeat clear Kx))))
     all_goals try (exfalso;first|contradiction|omega)
     (refine ⟨trivial,_,rfl,?_⟩;exact fD)
     all_goals simp_all
theorem ZOS {x:List Int} (h:0<x.length) (h0:x[x.length-1]=0):ZAj (x.take (x.length-1))=ZAj x:=by
 have e:x=x.take (x.length-1)++[0]:=by
  rw [<- h0,<- List.take_succ_eq_append_getElem (by omega),show x.length-1+1=x.length by omega,List.take_length]
 conv=>rhs;rw [e]
 rw [ZGh]
theorem ZOT {x:List Int} (h:0<x.length) (h0:x[x.length-1]≠0):ZAj x=x:=by
 have e:x=x.take (x.length-1)++[x[x.length-1]]:=by
  rw [<- List.take_succ_eq_append_getElem (by omega),show x.length-1+1=x.length by omega,List.take_length]
 rw [e]
 exact ZLs h0
set_option maxHeartbeats 8000000 in
theorem ZFv (l:List Int) (hl:l.length≤1000):Fn Tryz.prog 11 [dS ZBk l] (dS ZBk (ZAj l)):=by
 obtain ⟨o,ho⟩:∃ o,ZAj l=o:=⟨_,rfl⟩
 rw [ho]
 (refine ZG Tryz.func11 rfl rfl ?_;simp only [Tryz.ntmps11,List.length_cons,List.length_nil,Nat.reduceAdd,Nat.reduceSub,List.replicate_succ,List.replicate_zero,List.cons_append,List.nil_append])
 (repeat' (first|(apply WL.opN;exact yF;dsimp only [ZB,z0,z1])|refine WL.nil ?_|refine ZA fun Kx hK=>?_|(refine hK _ _ ?_;clear hK)|refine WC.region ?_|refine WC.block ?_))
 (refine ZH (X:=List Int) (fun x=>[(0,dS ZBk x),(3,dA),(4,dA),(5,dA),(6,dA),(7,dA),(8,dA),(9,dA),(10,dA),(11,dA),(12,dA),(13,dA),(14,dA),(15,dA),(16,dA),(17,dA),(18,dA),(19,dA)]) (fun x=>[]) (fun x=>x.length) (fun x=>x.length≤1000/\ZAj x=o) l ?start ?frame0 ?objs0 ?round)
 case start=>exact ⟨hl,ho⟩
 case frame0=>((try dsimp only [ZQ,z0,z1]);repeat (first|exact LeF.nil|refine ZD (k:=?_)))
 case objs0=>rfl
 case round =>
  rintro x ⟨h1,h2⟩
  dsimp only [ZQ,z0,z1]
  by_cases hx:0<x.length
  ·have hxI:(x.length:Int)>0:=by omega
   obtain ⟨n,hn⟩:∃ n,x.length=n+1:=⟨x.length-1,by omega⟩
   have hnl:n<x.length:=by omega
   have hcut:=ZOS hx
   have hend:=ZOT hx
   have ex:x.length-1=n:=by omega
   simp only [ex] at hcut hend
   have eI:(x.length:Int)-1=(n:Int):=by omega
   have hn9:n≤x.length:=by omega
   have hb : -9223372036854775808≤(n:Int)/\(n:Int)≤9223372036854775807:=by omega
   obtain ⟨q,hq⟩:∃ q,x[n]=q:=⟨_,rfl⟩
   rw [hq] at hcut hend
   have hlt:(x.take n).length<x.length:=by rw [List.length_take];omega
   clear hn
   by_cases h0:q=0
   ·have hb0:decide (q=0)=true:=decide_eq_true h0
    ((repeat' (first|(apply WL.opN;exact yF;dsimp only [ZB,z0,z1])|refine WL.nil ?_|refine ZA fun Kx hK=>?_|(refine hK _ _ ?_;clear hK)|refine WC.region ?_|(apply ZF;(focus (first|exact wN|(apply SYG.yes;(exact wY);((first|(exact ZC1 eI hb (OpD.t rfl) OpD.i)|(exact ZJ5 (R:=RI) (_gR:=inferInstance) elI hnl hq (OpD.t rfl) (OpD.t rfl))|(exact ZFP hb0 (OpD.t rfl) OpD.i)|(exact ZOw (R:=RI) (_gR:=inferInstance) elI hn9 (OpD.t rfl) (OpD.t rfl))|((first|apply SY.move|apply SY.assign|apply SY.gtr|apply SY.eql) <;> (exact oD))|(apply SY.load;(exact tD);(exact oD))|(apply SY.len;(exact oD);(exact nD);(exact uD))|(apply Zn;(exact oD);(with_reducible rfl);(exact oD))|fail);all_goals infer_instance))));dsimp only [ZB,z0,z1])|((first|refine ZM rfl rfl rfl (fun h=>?_) (fun h=>?_)|refine ZL rfl rfl rfl (fun h=>?_) (fun h=>?_)|refine ZK rfl rfl rfl (fun h=>?_) (fun h=>?_)) <;> (first|(exfalso;first|omega|contradiction)|(dsimp only [z0,z1])))|(apply Z0;(exact oD);(with_reducible rfl))|refine WC.skip ?_|refine WC.block ?_|refine ThenD.n ?_|refine InBlockD.n ?_));all_goals (first|((repeat clear hK);(repeat clear Kx))))
    all_goals try (exfalso;first|contradiction|omega)
    (refine ⟨x.take n,?_,by first|omega|(simp only;omega),rfl,?_⟩;rotate_left;((try dsimp only [ZQ,z0,z1]);repeat (first|exact LeF.nil|refine ZD (k:=?_)));(try dsimp only))
    exact ⟨by rw [List.length_take];omega,by rw [hcut h0];exact h2⟩
   ·have hb0:decide (q=0)=false:=decide_eq_false h0
    rw [hend h0] at h2
    subst h2
    ((repeat' (first|(apply WL.opN;exact yF;dsimp only [ZB,z0,z1])|refine WL.nil ?_|refine ZA fun Kx hK=>?_|(refine hK _ _ ?_;clear hK)|(refine Kont.skip ?_;clear hK)|refine WC.region ?_|(apply ZF;(focus (first|exact wN|(apply SYG.yes;(exact wY);((first|(exact ZC1 eI hb (OpD.t rfl) OpD.i)|(exact ZJ5 (R:=RI) (_gR:=inferInstance) elI hnl hq (OpD.t rfl) (OpD.t rfl))|(exact ZFP hb0 (OpD.t rfl) OpD.i)|((first|apply SY.move|apply SY.assign|apply SY.gtr|apply SY.eql) <;> (exact oD))|(apply SY.load;(exact tD);(exact oD))|(apply SY.len;(exact oD);(exact nD);(exact uD))|(apply Zn;(exact oD);(with_reducible rfl);(exact oD))|fail);all_goals infer_instance))));dsimp only [ZB,z0,z1])|((first|refine ZM rfl rfl rfl (fun h=>?_) (fun h=>?_)|refine ZL rfl rfl rfl (fun h=>?_) (fun h=>?_)|refine ZK rfl rfl rfl (fun h=>?_) (fun h=>?_)) <;> (first|(exfalso;first|omega|contradiction)|(dsimp only [z0,z1])))|(apply Za;(exact oD);(with_reducible rfl))|refine WC.ret ?_|refine WC.exit ?_));all_goals (first|((repeat clear hK);(repeat clear Kx))))
    all_goals try (exfalso;first|contradiction|omega)
    (refine ⟨trivial,_,rfl,?_⟩;exact fD)
  ·have hxI:¬ (x.length:Int)>0:=by omega
   have hx0:x=[]:=List.length_eq_zero_iff.1 (by omega)
   subst hx0
   have:o=[]:=by rw [<- h2];rfl
   subst this
   ((repeat' (first|(apply WL.opN;exact yF;dsimp only [ZB,z0,z1])|refine WL.nil ?_|refine ZA fun Kx hK=>?_|(refine hK _ _ ?_;clear hK)|(refine Kont.skip ?_;clear hK)|refine WC.region ?_|(apply ZF;(focus (first|exact wN|(apply SYG.yes;(exact wY);((first|((first|apply SY.move|apply SY.assign|apply SY.gtr|apply SY.eql) <;> (exact oD))|(apply SY.len;(exact oD);(exact nD);(exact uD))|(apply Zj;(exact oD);(with_reducible rfl);(exact oD))|fail);all_goals infer_instance))));dsimp only [ZB,z0,z1])|((first|refine ZM rfl rfl rfl (fun h=>?_) (fun h=>?_)|refine ZL rfl rfl rfl (fun h=>?_) (fun h=>?_)|refine ZK rfl rfl rfl (fun h=>?_) (fun h=>?_)) <;> (first|(exfalso;first|omega|contradiction)|(dsimp only [z0,z1])))|(apply Za;(exact oD);(with_reducible rfl))|refine WC.ret ?_|refine WC.exit ?_));all_goals (first|((repeat clear hK);(repeat clear Kx))))
   all_goals try (exfalso;first|contradiction|omega)
   (refine ⟨trivial,_,rfl,?_⟩;exact fD)
end
end Go.Proofs.YtokmalofdapffaaGreat
