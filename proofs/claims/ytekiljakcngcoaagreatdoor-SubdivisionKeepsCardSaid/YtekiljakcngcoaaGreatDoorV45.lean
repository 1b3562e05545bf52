/- Part 45: walks by contracts, and plain laws. -/
import Derived.Test.YtekiljakcngcoaaGreatDoorV44
set_option linter.unusedVariables false
set_option linter.unusedSimpArgs false
set_option linter.unusedSectionVars false
set_option maxRecDepth 100000
set_option maxHeartbeats 4000000
namespace Go.Proofs.YtekiljakcngcoaaGreatDoor
section
open Go.RowKit

def exS:List Vx:=[(0,5),(1,0)]
def exB:Cx:=[[(0,0),(1,2)],[(0,1),(1,2)]]
theorem ZTd:ZGd 2=([[1,2],[2,1],[3]],0)/\(ZGd 3).2=0/\(ZGd 3).1.length=13/\(ZGd 4).2=0/\(ZGd 4).1.length=75:=by decide +kernel
theorem ZUt:ZGO exS [2,1]=([(0,3),(1,2)],0):=by decide +kernel
theorem ZUv:ZR1 exS=(([[(0,1),(1,3)],[(0,3),(1,2)],[(0,3),(1,3)]],[(0,1),(0,3),(1,2),(1,3)],[[(0,5)],exS,[(1,0)],exS]),0):=by decide +kernel
theorem ZRU (n:Nat) (h:n<10):Lib.itoa (n:Int)=[UInt8.ofNat (48+n)]:=by rw [Lib.itoa_nonneg,Lib.decDigits_one h]
theorem ZTe:txS [(0,5)]=[48,47,53,32]:=by
 show (((Lib.itoa ((0:Nat):Int)++[47])++Lib.itoa ((5:Nat):Int))++[32])++[]=_
 rw [ZRU 0 (by decide),ZRU 5 (by decide)]
 rfl
theorem ZTf:txS [(1,0)]=[49,47,48,32]:=by
 show (((Lib.itoa ((1:Nat):Int)++[47])++Lib.itoa ((0:Nat):Int))++[32])++[]=_
 rw [ZRU 0 (by decide),ZRU 1 (by decide)]
 rfl
theorem ZUw:txS exS=[48,47,53,32,49,47,48,32]:=by
 have h:txS exS=txS [(0,5)]++txS [(1,0)]:=by
  unfold txS exS
  simp
 rw [h,ZTe,ZTf]
 rfl
theorem ZQ3:ZFW [exS]=[[(0,5)],[(1,0)],exS]:=by decide +kernel
theorem ZUu:ZA2 [exS]=[([48,47,53,32],0),([49,47,48,32],1),([48,47,53,32,49,47,48,32],2)]:=by
 unfold ZA2
 rw [ZQ3]
 simp only [List.foldl_cons,List.foldl_nil]
 unfold ZFg
 rw [ZTe,ZTf,ZUw]
 decide +kernel
theorem ZOY:ZGb 3=[[1,2],[2,1]]:=by decide +kernel
theorem ZUq:atB exS (orB [1,2] 1)=[(0,5)]/\atB exS (orB [1,2] 2)=exS/\atB exS (orB [2,1] 1)=[(1,0)]/\atB exS (orB [2,1] 2)=exS:=by decide +kernel
theorem ZUs:ZHl (ZA2 [exS]) exS [1,2] 0=(0,0)/\ZHl (ZA2 [exS]) exS [1,2] 1=(1,2)/\ZHl (ZA2 [exS]) exS [2,1] 0=(0,1)/\ZHl (ZA2 [exS]) exS [2,1] 1=(1,2):=by
 obtain ⟨a1,a2,a3,a4⟩:=ZUq
 unfold ZHl ZQD
 rw [a1,a2,a3,a4,ZTe,ZTf,ZUw,ZUu]
 decide +kernel
theorem ZUr:ZBR (ZA2 [exS]) [exS]=exB:=by
 obtain ⟨b1,b2,b3,b4⟩:=ZUs
 unfold ZBR
 rw [List.flatMap_cons,List.flatMap_nil,List.append_nil,show 2 ^ exS.length-1=3 from rfl,ZOY]
 simp only [List.map_cons,List.map_nil]
 unfold ZDX
 show [[ZHl _ exS [1,2] 0,ZHl _ exS [1,2] 1],[ZHl _ exS [2,1] 0,ZHl _ exS [2,1] 1]]=exB
 rw [b1,b2,b3,b4]
 rfl
def exK (v:Vx):List Vx:=if v=(0,0) then [(0,5)] else if v=(0,1) then [(1,0)] else if v=(1,2) then exS else []
theorem ZTc (v:Vx):(exK v).length≤1000:=by
 unfold exK
 split
 ·simp
 ·split
  ·simp
  ·split
   ·unfold exS;simp
   ·simp
theorem CallC.lessA {f:FuncId} {a a':Dat} {hp1:List HObj} {K:Dat->List HObj->Prop} (h:CallC Tryz.prog f [a] hp1 K) (k:a'.le a):CallC Tryz.prog f [a'] hp1 K:=⟨fun P0 B w0 hp vs W hh hl hv=>h.out P0 B w0 hp vs W hh hl fun i d hd=>by
 cases i with
 | zero=>cases hd;exact k _ _ _ (hv 0 _ rfl)
 | succ i=>cases hd⟩
theorem ZTJ:CallC Tryz.prog 8 ([dS Cpx [exS]]++([]:List Value).map dX) [] (fun d hp2=>∃ B:Sb,d=dT [dS ZG6 (exB,B.2.1,B.2.2),dI 0]/\hp2=[]):=by
 have hb:=ZUr
 refine ((ZN1 (S:=True) [exS] exB exK (by decide) (by decide +kernel) (by decide +kernel) (by decide +kernel) (by decide +kernel) (by rw [hb];decide) (by rw [hb];decide) ?_ ZTc (by rw [hb];decide +kernel) fun _=>?_).lessA (ZUH trivial)).monoK fun d hp2 ⟨h1,h2⟩=>⟨([],_,_),h1,h2⟩
 ·intro s hs bl hbl k hk
  cases List.mem_singleton.1 hs
  rw [show 2 ^ exS.length-1=3 from rfl,ZOY] at hbl
  obtain ⟨b1,b2,b3,b4⟩:=ZUs
  obtain ⟨a1,a2,a3,a4⟩:=ZUq
  have hok:∀ a b:Fin 8,okV (((a.val:Nat):Int),((b.val:Nat):Int)):=fun a b=>by
   unfold okV ZKp
   have:=a.2;have:=b.2
   simp only
   omega
  simp only [List.mem_cons,List.not_mem_nil,or_false] at hbl
  rcases hbl with rfl|rfl
  ·have:k=0\/k=1:=by simp at hk;omega
   rcases this with rfl|rfl
   ·rw [b1,a1];exact ⟨hok 0 0,by decide⟩
   ·rw [b2,a2];exact ⟨hok 1 2,by decide⟩
  ·have:k=0\/k=1:=by simp at hk;omega
   rcases this with rfl|rfl
   ·rw [b3,a3];exact ⟨hok 0 1,by decide⟩
   ·rw [b4,a4];exact ⟨hok 1 2,by decide⟩
 ·intro s hs v hv
  cases List.mem_singleton.1 hs
  unfold exS at hv
  simp only [List.mem_cons,List.not_mem_nil,or_false] at hv
  rcases hv with rfl|rfl <;> decide
theorem v29_p (c n:Int):Fn Tryz.prog 18 [dI c,dI n] (dS RV (c,n)):=by
 refine ZDS tyV Tryz.func18 rfl rfl ?_
 simp only [Tryz.ntmps18,List.length_cons,List.length_nil,Nat.reduceAdd,Nat.reduceSub,List.replicate_succ,List.replicate_zero,List.cons_append,List.nil_append]
 ((repeat' (first|(apply WL.opN;exact yF;dsimp only [ZA,z0,z1])|refine WL.nil ?_|refine ZC fun Kx hK=>?_|(refine hK _ _ ?_;clear hK)|refine WC.region ?_|(apply WL.alloc;(first|exact tzV|exact tzC);(first|exact ZN rfl|exact ZW|exact ZX rfl);(intro _;dsimp only [ZA,z0,z1]))|(apply ZG;(exact tD);rfl;(exact oD);(exact hD);dsimp only [ZA,z0,z1])|(apply WL.opN;(focus ((first|(first|(apply SY.mkV0 vxT <;> (exact oD))|(apply SY.mkV1 vxT <;> (exact oD))|(apply ZAo vxT <;> (exact oD)))|fail);all_goals infer_instance));dsimp only [ZA,z0,z1])|refine WC.ret ?_));all_goals (first|((repeat clear hK);(repeat clear Kx))))
 (refine ⟨trivial,_,rfl,?_⟩;exact fD)
theorem ZUG (l:List Int):Fn Tryz.prog 50 [dS ZCC l,dS ZCC l] (dB true):=by
 (refine ZH Tryz.func50 rfl rfl ?_;simp only [Tryz.ntmps50,List.length_cons,List.length_nil,Nat.reduceAdd,Nat.reduceSub,List.replicate_succ,List.replicate_zero,List.cons_append,List.nil_append])
 (first|refine Ze (t:=0) rfl ZFf fun hl0=>?_|refine Ze (t:=0) rfl ZFe fun hl0=>?_|refine Ze (t:=0) rfl ZQC fun hl0=>?_);simp only [maxLen] at hl0
 (repeat' (first|((first|apply WL.opN|apply WD.opN);exact yF;dsimp only [ZA,z0,z1])|refine WL.nil ?_|refine ZC fun Kx hK=>?_|(refine hK _ _ ?_;clear hK)|refine WC.region ?_|((first|apply WL.opN|apply WD.opN);(focus ((first|((first|apply SY.move|apply SY.assign|apply SY.lss|apply SY.neq) <;> (exact oD))|(apply SY.len;(exact oD);(exact nD);(exact uD))|fail);all_goals infer_instance));dsimp only [ZA,z0,z1])|(apply WC.condN;(exact oD);all_goals (intro h;try exact xD))|refine WC.skip ?_|refine WC.block ?_))
 (refine WC.loopU (X:=Nat) (fun k=>[(5,dI (k:Int)),(4,dA),(11,dA),(12,dA),(13,dA),(14,dA),(15,dA),(16,dA),(17,dA),(18,dA),(19,dA),(20,dA),(21,dA),(22,dA),(23,dA),(24,dA),(25,dA)]) (fun k=>[]) (fun k=>l.length-k) (fun k=>k≤l.length) 0 ?start ?frame0 ?objs0 ?round)
 case start=>exact Nat.zero_le _
 case frame0=>((try dsimp only [Za,z0,z1]);repeat (first|exact LeF.nil|refine ZF (k:=?_)))
 case objs0=>rfl
 case round =>
  rintro k h1
  dsimp only [Za,z0,z1]
  by_cases hk:k<l.length
  ·((repeat' (first|((first|apply WL.opN|apply WD.opN);exact yF;dsimp only [ZA,z0,z1])|refine WL.nil ?_|refine WD.nil ?_|refine ZC fun Kx hK=>?_|(refine hK _ _ ?_;clear hK)|refine WC.region ?_|(apply WC.draw;kernel_rfl;kernel_rfl)|((first|apply WL.opN|apply WD.opN);(focus ((first|((first|apply SY.move|apply SY.assign|apply SY.lss|apply SY.neq) <;> (exact oD))|((first|apply SY.add) <;> first|exact oD|omega)|(apply SY.len;(exact oD);(exact nD);(exact uD))|(apply SY.ix;(exact eD);(exact oD);(exact oD);exact kD)|fail);all_goals infer_instance));dsimp only [ZA,z0,z1])|(apply ZE;(exact oD);all_goals (intro h;try exact xD))|(apply WC.condN;(exact oD);all_goals (intro h;try exact xD))|refine WC.skip ?_|refine WC.block ?_|refine ThenD.n ?_));all_goals (first|((repeat clear hK);(repeat clear Kx))))
   all_goals first
    | (exfalso;omega)
    | ((refine ⟨k+1,?_,by first|omega|(simp only;omega),rfl,?_⟩;rotate_left;((try dsimp only [Za,z0,z1]);repeat (first|exact LeF.nil|refine ZF (k:=?_)));(try dsimp only));omega)
  ·((repeat' (first|((first|apply WL.opN|apply WD.opN);exact yF;dsimp only [ZA,z0,z1])|refine WL.nil ?_|refine ZC fun Kx hK=>?_|(refine hK _ _ ?_;clear hK)|(refine Kont.skip ?_;clear hK)|refine WC.region ?_|((first|apply WL.opN|apply WD.opN);(focus ((first|((first|apply SY.move|apply SY.assign|apply SY.lss|apply SY.neq) <;> (exact oD))|(apply SY.len;(exact oD);(exact nD);(exact uD))|fail);all_goals infer_instance));dsimp only [ZA,z0,z1])|(apply ZE;(exact oD);all_goals (intro h;try exact xD))|refine WC.ret ?_|refine WC.exit ?_));all_goals (first|((repeat clear hK);(repeat clear Kx))))
   all_goals first
    | (exfalso;omega)
    | (refine ⟨trivial,_,rfl,?_⟩;exact fD)
theorem ZUF (l:List (List Int)):Fn Tryz.prog 22 [dS Rows l,dS Rows l] (dB true):=by
 (refine ZH Tryz.func22 rfl rfl ?_;simp only [Tryz.ntmps22,List.length_cons,List.length_nil,Nat.reduceAdd,Nat.reduceSub,List.replicate_succ,List.replicate_zero,List.cons_append,List.nil_append])
 (first|refine Ze (t:=0) rfl ZFf fun hl0=>?_|refine Ze (t:=0) rfl ZFe fun hl0=>?_|refine Ze (t:=0) rfl ZQC fun hl0=>?_);simp only [maxLen] at hl0
 (repeat' (first|((first|apply WL.opN|apply WD.opN);exact yF;dsimp only [ZA,z0,z1])|refine WL.nil ?_|refine ZC fun Kx hK=>?_|(refine hK _ _ ?_;clear hK)|refine WC.region ?_|((first|apply WL.opN|apply WD.opN);(focus ((first|(apply SY.len;exact OpD.t rfl;exact ZKr;exact ZTb.unt)|((first|apply SY.move|apply SY.assign|apply SY.lss|apply SY.neq|apply SY.not) <;> (exact oD))|fail);all_goals infer_instance));dsimp only [ZA,z0,z1])|(apply WC.condN;(exact oD);all_goals (intro h;try exact xD))|refine WC.skip ?_|refine WC.block ?_))
 all_goals try (exfalso;omega)
 (refine WC.loopU (X:=Nat) (fun k=>[(5,dI (k:Int)),(4,dA),(11,dA),(12,dA),(13,dA),(14,dA),(15,dA),(16,dA),(17,dA),(18,dA),(19,dA),(20,dA),(21,dA),(22,dA),(23,dA),(24,dA),(25,dA),(26,dA)]) (fun k=>[]) (fun k=>l.length-k) (fun k=>k≤l.length) 0 ?start ?frame0 ?objs0 ?round)
 case start=>exact Nat.zero_le _
 case frame0=>((try dsimp only [Za,z0,z1]);repeat (first|exact LeF.nil|refine ZF (k:=?_)))
 case objs0=>rfl
 case round =>
  rintro k h1
  dsimp only [Za,z0,z1]
  by_cases hk:k<l.length
  ·((repeat' (first|((first|apply WL.opN|apply WD.opN);exact yF;dsimp only [ZA,z0,z1])|refine WL.nil ?_|refine WD.nil ?_|refine ZC fun Kx hK=>?_|(refine hK _ _ ?_;clear hK)|refine WC.region ?_|(apply WC.draw;kernel_rfl;kernel_rfl)|((first|apply WL.opN|apply WD.opN);(focus ((first|(apply SY.len;exact OpD.t rfl;exact ZKr;exact ZTb.unt)|(refine SY.ix (R:=ZCC) (_gR:=inferInstance) ZTb (OpD.t rfl) (OpD.t rfl) hk)|(apply SY.load;exact ZVb;exact OpD.t rfl)|(apply SY.call (ZUG l[k]) Tryz.call50;(exact aD))|(exact ZBs (OpD.t rfl))|((first|apply SY.move|apply SY.assign|apply SY.lss|apply SY.neq|apply SY.not) <;> (exact oD))|((first|apply SY.add) <;> first|exact oD|omega)|(apply SY.load;(exact tD);(exact oD))|(apply SY.len;(exact oD);(exact nD);(exact uD))|(apply ZV;exact OpD.t rfl;(first|exact .head _|exact .tail _ (.head _));(exact uD))|(apply Zf;exact OpD.t rfl;(first|exact .head _|exact .tail _ (.head _));(exact uD))|(apply Zi;(exact eD);(exact oD);(exact oD);exact kD)|(apply SY.ix;(exact eD);(exact oD);(exact oD);exact kD)|(first|(apply Zm vxT <;> (exact oD)))|(apply Zn;(exact oD);(exact oD);exact ZCF)|fail);all_goals infer_instance));dsimp only [ZA,z0,z1])|(apply ZK;(exact oD);(with_reducible rfl))|(apply ZE;(exact oD);all_goals (intro h;try exact xD))|refine WC.skip ?_|refine WC.block ?_|refine ThenD.n ?_));all_goals (first|((repeat clear hK);(repeat clear Kx))))
   all_goals first
    | (exfalso;omega)
    | ((refine ⟨k+1,?_,by first|omega|(simp only;omega),rfl,?_⟩;rotate_left;((try dsimp only [Za,z0,z1]);repeat (first|exact LeF.nil|refine ZF (k:=?_)));(try dsimp only));omega)
  ·((repeat' (first|((first|apply WL.opN|apply WD.opN);exact yF;dsimp only [ZA,z0,z1])|refine WL.nil ?_|refine ZC fun Kx hK=>?_|(refine hK _ _ ?_;clear hK)|(refine Kont.skip ?_;clear hK)|refine WC.region ?_|((first|apply WL.opN|apply WD.opN);(focus ((first|(apply SY.len;exact OpD.t rfl;exact ZKr;exact ZTb.unt)|((first|apply SY.move|apply SY.assign|apply SY.lss|apply SY.neq|apply SY.not) <;> (exact oD))|fail);all_goals infer_instance));dsimp only [ZA,z0,z1])|(apply ZE;(exact oD);all_goals (intro h;try exact xD))|refine WC.ret ?_|refine WC.exit ?_));all_goals (first|((repeat clear hK);(repeat clear Kx))))
   all_goals first
    | (exfalso;omega)
    | (refine ⟨trivial,_,rfl,?_⟩;exact fD)
end
section
open Go.RowKit
section
variable {P:Program} {ops:Array Oper} {hp:List HObj} {fr:List Dat} {dst:Option Tmp} {ty:TypeId} {ps:String} {af:Array Edge} {g:Option (Nat × Bool)} {T T2:TypeId}
theorem ZS9 {p q:Int} {x y:Operand} (h:p=q) (hx:OpD fr x (dI p)) (hy:OpD fr y (dI q)):SY P ops hp ⟨dst,.binOp .neq T x y T2,ty,ps,af,g⟩ fr (dB false):=by
 have:=SY.neq (P:=P) (ops:=ops) (hp:=hp) (dst:=dst) (ty:=ty) (ps:=ps) (af:=af) (g:=g) (T:=T) (T2:=T2) hx hy
 rwa [decide_eq_true h] at this
theorem ZKO {p q:Int} {x y:Operand} (h:p=q) (hx:OpD fr x (dI p)) (hy:OpD fr y (dI q)):SY P ops hp ⟨dst,.binOp .eql T x y T2,ty,ps,af,g⟩ fr (dB true):=by
 have:=SY.eql (P:=P) (ops:=ops) (hp:=hp) (dst:=dst) (ty:=ty) (ps:=ps) (af:=af) (g:=g) (T:=T) (T2:=T2) hx hy
 rwa [decide_eq_true h] at this
theorem ZQJ {x y:Operand} (hx:OpD fr x (dI 0)) (hy:OpD fr y (dI 0)):SY P ops hp ⟨dst,.binOp .add T x y T2,ty,ps,af,g⟩ fr (dI 0):=SY.add hx hy (by omega)
end

set_option maxHeartbeats 16000000 in
theorem ZNu:Fn Tryz.prog 6 [] (dB true):=by
 obtain ⟨x1,x2,x3,x4,x5⟩:=ZTd
 have c1:=ZDM 2
 rw [x1] at c1
 have c2:=ZDM 3
 rw [x2] at c2
 have c3:=ZDM 4
 rw [x4] at c3
 generalize (ZGd 3).1=l3 at *
 generalize (ZGd 4).1=l4 at *
 have c4:Fn Tryz.prog 20 [dS ZI [(0,5),(1,0)],dS ZCC [2,1]] (dT [dS ZI [(0,3),(1,2)],dI 0]):=by
  have:=ZRB exS [2,1]
  rw [ZUt] at this
  exact this
 have c5:Fn Tryz.prog 21 [dS ZI [(0,5),(1,0)]] (dT [dS ZG6 ([[(0,1),(1,3)],[(0,3),(1,2)],[(0,3),(1,3)]],[(0,1),(0,3),(1,2),(1,3)],[[(0,5)],[(0,5),(1,0)],[(1,0)],[(0,5),(1,0)]]),dI 0]):=by
  have:=ZK0 exS
  rw [ZUv] at this
  exact this
 have c6:CallC Tryz.prog 8 ([dS Cpx [[(0,5),(1,0)]]]++([]:List Value).map dX) [] (fun d hp2=>∃ B:Sb,d=dT [dS ZG6 ([[(0,0),(1,2)],[(0,1),(1,2)]],B.2.1,B.2.2),dI 0]/\hp2=[]):=ZTJ
 have s:∀ l:Cx,Fn Tryz.prog 24 [dS ZAe l,dS ZAe l] (dB true):=fun l=>by
  have:=ZPe l l
  rwa [decide_eq_true rfl] at this
 have s1:∀ l:List Vx,Fn Tryz.prog 23 [dS ZI l,dS ZI l] (dB true):=fun l=>by
  have:=ZSq l l
  rwa [decide_eq_true (ZDy.2 rfl)] at this
 refine ZH Tryz.func6 rfl rfl ?_
 show WC _ _ _ (List.replicate 137 (dX undef)) []
 simp only [List.replicate_succ,List.replicate_zero]
 ((repeat' (first|((first|apply WL.opN|apply WD.opN);exact yF;dsimp only [ZA,z0,z1])|refine WL.nil ?_|refine WD.nil ?_|refine ZC fun Kx hK=>?_|(refine hK _ _ ?_;clear hK)|refine WC.region ?_|(apply WC.draw;kernel_rfl;kernel_rfl) |  (refine ZEG (zs:=[.slice none 0 0,.slice none 0 0,.slice none 0 0]) ZKA (by decide) (by simp [Value.oneCell']) fun b6=>?_;dsimp only [ZA,z0,z1,List.map_cons,List.map_nil]) |  (refine ZEK ZDp (OpD.t rfl) (OpD.tle rfl ZCy) rfl rfl ?_;dsimp only [ZA,z0,z1]) |  (refine ZAT (hp1:=[]) (caps:=[]) c6 Tryz.call8 OpD.f (by (exact aD)) ?_;rintro d' hp2 ⟨B,rfl,rfl⟩;dsimp only [ZA,z0,z1,List.cons_append,List.nil_append])|((first|apply ZS|apply WD.op);(focus (first|exact wN|(apply SYG.yes;(exact wY);((first|(apply SY.call (v29_p _ _) Tryz.call18;(exact aD))|(apply SY.call c1 Tryz.call19;exact ArgsD.cons OpD.i ArgsD.nil)|(apply SY.call c2 Tryz.call19;exact ArgsD.cons OpD.i ArgsD.nil)|(apply SY.call c3 Tryz.call19;exact ArgsD.cons OpD.i ArgsD.nil)|(apply SY.call (c4) Tryz.call20;exact ArgsD.cons (OpD.t rfl) (ArgsD.cons (OpD.t rfl) (ArgsD.nil)))|(apply SY.call (c5) Tryz.call21;exact ArgsD.cons (OpD.t rfl) (ArgsD.nil))|(apply SY.call (ZUF _) Tryz.call22;(exact aD))|(apply SY.call (s1 _) Tryz.call23;(exact aD))|(apply SY.call (s _) Tryz.call24;(exact aD))|(refine ZAU ZCi (OpD.t rfl) (by decide))|(apply ZKP ZAA;exact OpD.t rfl)|(refine Z1 ZIn (OpD.t rfl) (.head _) rfl)|(refine Z1 ZG3 (OpD.t rfl) (.head _) rfl)|(apply SY.len;exact OpD.t rfl;exact ZKr;exact ZTb.unt)|(exact SY.build1' (R:=ZCC) (_gR:=inferInstance) (els:=[[1,2],[2,1],[3]]) ZTb (ZQ (OpD.t rfl) (ZQ (OpD.t rfl) (ZQ (OpD.t rfl) ZR))) rfl rfl (fun _=>Zt) (Nat.le_of_ble_eq_true rfl))|(exact ZQJ (OpD.t rfl) (OpD.t rfl))|(exact ZS9 (p:=0) (q:=0) rfl (OpD.t rfl) OpD.i)|(exact ZKO (p:=0) (q:=0) rfl (OpD.t rfl) OpD.i)|(exact ZKO (p:=((l3.length:Nat):Int)) (q:=13) (x3 ▸ rfl) (OpD.t rfl) OpD.i)|(exact ZKO (p:=((l4.length:Nat):Int)) (q:=75) (x5 ▸ rfl) (OpD.t rfl) OpD.i)|(exact ZBs (OpD.t rfl))|((first|apply SY.move|apply SY.assign|apply SY.eql|apply SY.neq|apply SY.not) <;> (exact oD))|(apply ZAv ZAA;exact OpD.t rfl)|(apply SY.buildE;(exact eD);((try simp only [List.map_cons,List.map_nil]);(repeat (first|exact ZR|(apply ZQ;(first|exact OpD.t rfl|exact OpD.i|exact OpD.b|exact OpD.tle rfl (by first|exact ZD|exact ZB (by decide))|exact ⟨ZD⟩|exact ⟨ZB (by decide)⟩)))));rfl;rfl;decide;(intro _;exact Zo);(exact (by simp)))|(apply SY.build1';(exact eD);((try simp only [List.map_cons,List.map_nil]);(repeat (first|exact ZR|(apply ZQ;(first|exact OpD.t rfl|exact OpD.i|exact OpD.b|exact OpD.tle rfl (by first|exact ZD|exact ZB (by decide))|exact ⟨ZD⟩|exact ⟨ZB (by decide)⟩)))));rfl;rfl;(intro _;first|exact Zq|exact Zv|exact Zt|exact shape_B);(exact (by simp)))|(apply Zx;(exact oD);(with_reducible rfl);(exact oD))|(apply Z2;(exact oD);(with_reducible rfl);(exact oD))|(apply SY.extract;(exact oD);rfl)|fail);all_goals infer_instance))));dsimp only [ZA,z0,z1])|(apply ZK;(exact oD);(with_reducible rfl))|refine WC.skip ?_|refine WC.ret ?_));all_goals (first|((repeat clear hK);(repeat clear Kx))))
 all_goals try (exfalso;first|contradiction|omega)
 (refine ⟨trivial,_,rfl,?_⟩;exact fD)
end
section
open Go.RowKit
def ZUg:Nat->List Vx->List Vx->List Cx
 | 0,_,_=>[[]]
 | n+1,s,f=>s.flatMap fun v=>if v∈f then [] else (ZUg n s (ZPW f v)).map (ZPW f v :: ·)

end
section
open Go.RowKit
def ZM0 (fs ch:Cx):List (Vx × List Vx):=ch.zipIdx.map fun p=>(((p.2:Int),ZAN 0 fs p.1),p.1)
theorem ZJz (fs ch:Cx):(ZM0 fs ch).length=ch.length:=by simp [ZM0]
theorem ZJy {fs ch:Cx} {k:Nat} (h:k<(ZM0 fs ch).length) (h':k<ch.length):(ZM0 fs ch)[k]=(((k:Int),ZAN 0 fs ch[k]),ch[k]):=by simp [ZM0]
def putP (d t:List (Vx × List Vx)):List (Vx × List Vx):=t.foldl (fun d p=>ZPV d p.1 p.2) d
def ZRy (A:Cx × List (Vx × List Vx)) (t:List (Vx × List Vx)):Cx × List (Vx × List Vx):=(ZFy A.1 (t.map (·.1)),putP A.2 t)
def ZVW (A:Cx × List (Vx × List Vx)) (F:List (List (Vx × List Vx))):Cx × List (Vx × List Vx):=F.foldl ZRy A
def chB (fs:Cx) (s:List Vx):List (List (Vx × List Vx)):=(ZUg s.length s []).map (ZM0 fs)
def ZSI (fs l:Cx):Cx × List (Vx × List Vx):=l.foldl (fun A s=>ZVW A (chB fs s)) ([],[])
def ZP7 (l:Cx):Sub × Int:=if ZAr l≠0 then (([],[],[]),ZAr l) else (((ZSI (ZAL l) l).1,(ZSI (ZAL l) l).2.map (·.1),(ZSI (ZAL l) l).2.map (·.2)),0)
theorem ZR4 {l:Cx} (h5:∀ s∈l,s.length≤5):ZNE l≤120*l.length:=by
 unfold ZNE
 induction l with
 | nil=>simp
 | cons s l ih =>
  have h1:=ih fun t ht=>h5 t (by simp [ht])
  have h2:∀ n:Fin 6,ZP9 n.val≤120:=by decide
  have h3:=h2 ⟨s.length,by have:=h5 s (by simp);omega⟩
  simp only at h3
  simp only [List.map_cons,List.sum_cons,List.length_cons]
  omega

end
section
open Go.RowKit

set_option maxHeartbeats 4000000 in
theorem ZN0 (l:Cx) (he:ZAr l≠0):Fn Tryz.prog 8 [dS CpxL l] (dT [dS ZG6 ([],[],[]),dI (ZAr l)]):=by
 have c1:=ZBe l
 generalize ZAr l=e at *
 refine ZDT ZDp Tryz.func8 rfl rfl ?_
 simp only [Tryz.ntmps8,List.length_cons,List.length_nil,Nat.reduceAdd,Nat.reduceSub,List.replicate_succ,List.replicate_zero,List.cons_append,List.nil_append]
 ((repeat' (first|((first|apply WL.opN|apply WD.opN);exact yF;dsimp only [ZA,z0,z1])|refine WL.nil ?_|refine ZC fun Kx hK=>?_|(refine hK _ _ ?_;clear hK)|refine WC.region ?_ |  (refine WL.alloc (dst:=some 2) ZKA (ZA0 rfl rfl rfl) fun b2=>?_;dsimp only [ZA,z0,z1]) |  (refine ZG ZDp rfl (OpD.t rfl) ZAd ?_;dsimp only [ZA,z0,z1])|((first|apply WL.opN|apply WD.opN);(focus ((first|(exact SY.box (OpD.t rfl) (fun I w v h=>ZBM I w v (ZAh I w v h)))|(apply SY.call c1 Tryz.call32;exact ArgsD.cons (OpD.tle rfl ZAh) ArgsD.nil)|(exact ZHY)|((first|apply SY.move|apply SY.assign|apply SY.lss|apply SY.gtr|apply SY.neq|apply SY.or) <;> (exact oD))|fail);all_goals infer_instance));dsimp only [ZA,z0,z1])|(apply WC.condN;(exact oD);all_goals (intro h;try exact xD))|refine WC.ret ?_|refine ThenD.r ?_));all_goals (first|((repeat clear hK);(repeat clear Kx))))
 all_goals first|(refine ⟨trivial,⟨_,rfl,?_⟩,_,rfl,?_⟩ <;> exact fD)|(exfalso;first|contradiction|omega)
end
section
def chM (N:Nat):Nat->Nat->List (List Nat)
 | 0,_=>[[]]
 | c+1,m=>(List.range N).flatMap fun i=>if m.testBit i then [] else (chM N c (m ||| 2 ^ i)).map ((m ||| 2 ^ i) :: ·)
theorem ZMq {α:Type} (s:List Vx) (g:Vx->List α):s.flatMap g=(List.range s.length).flatMap fun i=>g (s.getD i (0,0)):=by
 have e:s=(List.range s.length).map fun i=>s.getD i (0,0):=by
  apply List.ext_getElem
  ·simp
  ·intro i h1 h2
   simp [List.getD_eq_getElem?_getD,h1]
 conv=>lhs;rw [e,List.flatMap_map]
theorem ZGQ {α β:Type} {f g:α->List β}:∀ {L:List α},(∀ x∈L,f x=g x)->L.flatMap f=L.flatMap g
 | [],_=>rfl
 | x::L,h=>by rw [List.flatMap_cons,List.flatMap_cons,h x (by simp),ZGQ fun y hy=>h y (by simp [hy])]
theorem ZOE {s:List Vx} (hs:Asc s):∀ (c m:Nat),ZUg c s (atB s m)=(chM s.length c m).map (·.map (atB s))
 | 0,m=>rfl
 | c+1,m=>by
  unfold ZUg chM
  rw [ZMq,List.map_flatMap]
  refine ZGQ fun i hi=>?_
  have hi:i<s.length:=List.mem_range.1 hi
  have hg:s.getD i (0,0)=s[i]:=by simp [List.getD_eq_getElem?_getD,hi]
  rw [hg]
  have hmem:s[i]∈atB s m↔m.testBit i=true:=by
   rw [ZFE]
   constructor
   ·rintro ⟨j,hj,e,hb⟩
    have hnd:=List.pairwise_iff_getElem.1 (ZE4 hs)
    have:j=i:=by
     rcases Nat.lt_trichotomy j i with q|q|q
     ·exact absurd e (hnd j i hj hi q)
     ·exact q
     ·exact absurd e.symm (hnd i j hi hj q)
    rw [<- this];exact hb
   ·intro hb;exact ⟨i,hi,rfl,hb⟩
  by_cases hb:m.testBit i=true
  ·rw [if_pos (hmem.2 hb),if_pos hb];rfl
  ·rw [if_neg (fun q=>hb (hmem.1 q)),if_neg hb]
   have hp:ZPW (atB s m) s[i]=atB s (m ||| 2 ^ i):=by
    refine ZCq (ZLV (List.Pairwise.sublist (ZBG _ _) hs)) (List.Pairwise.sublist (ZBG _ _) hs) fun x=>?_
    rw [ZL7,ZFE,ZFE]
    constructor
    ·rintro (rfl|⟨j,hj,e,hb2⟩)
     ·exact ⟨i,hi,rfl,by rw [Nat.testBit_or,Nat.testBit_two_pow_self,Bool.or_true]⟩
     ·exact ⟨j,hj,e,by rw [Nat.testBit_or,hb2];rfl⟩
    ·rintro ⟨j,hj,e,hb2⟩
     rw [Nat.testBit_or,Bool.or_eq_true] at hb2
     rcases hb2 with q|q
     ·exact .inr ⟨j,hj,e,q⟩
     ·rw [Nat.testBit_two_pow] at q
      have:i=j:=of_decide_eq_true q
      subst this;exact .inl e.symm
   rw [hp,ZOE hs c,List.map_map,List.map_map]
   rfl
def chQ (n:Nat):Bool:=decide (chM n n 0=(ZGb (2 ^ n-1)).map fun bl=>(List.range n).map fun k=>orB bl (k+1)) && (ZGb (2 ^ n-1)).all fun bl=>decide (bl.length=n) && decide (orB bl n=2 ^ n-1) && (List.range n).all fun k=>(List.range n).any fun i=>(orB bl (k+1)).testBit i
theorem ZSQ:∀ n,1≤n->n≤5->chQ n=true:=by
 intro n h1 h5
 have:n=1\/n=2\/n=3\/n=4\/n=5:=by omega
 rcases this with rfl|rfl|rfl|rfl|rfl <;> decide +kernel
theorem ZFH {n:Nat} (h1:1≤n) (h5:n≤5) {bl:List Nat} (hb:bl∈ZGb (2 ^ n-1)):bl.length=n/\orB bl n=2 ^ n-1/\∀ k,k<n->∃ i,i<n/\(orB bl (k+1)).testBit i=true:=by
 have h:=ZSQ n h1 h5
 unfold chQ at h
 rw [Bool.and_eq_true] at h
 have h2:=List.all_eq_true.1 h.2 bl hb
 rw [Bool.and_eq_true,Bool.and_eq_true] at h2
 refine ⟨of_decide_eq_true h2.1.1,of_decide_eq_true h2.1.2,fun k hk=>?_⟩
 obtain ⟨i,hi,h3⟩:=List.any_eq_true.1 (List.all_eq_true.1 h2.2 k (List.mem_range.2 hk))
 exact ⟨i,List.mem_range.1 hi,h3⟩
theorem ZQk (s:List Vx):atB s 0=[]:=List.eq_nil_iff_forall_not_mem.2 fun x hx=>by
 obtain ⟨i,_,_,hb⟩:=ZFE.1 hx
 simp at hb
theorem ZSR {s:List Vx} (hc:Z3 s=0) (h5:s.length≤5):ZUg s.length s []=(ZGb (2 ^ s.length-1)).map fun bl=>(List.range s.length).map fun k=>atB s (orB bl (k+1)):=by
 obtain ⟨h1,_,_,h4⟩:=ZP.1 hc
 have h:=ZSQ s.length (by omega) h5
 unfold chQ at h
 rw [Bool.and_eq_true] at h
 have e:=of_decide_eq_true h.1
 rw [<- ZQk s,ZOE h4,e,List.map_map]
 refine List.map_congr_left fun bl _=>?_
 simp only [Function.comp];rw [List.map_map];rfl
def ZUy (fs l:Cx):Cx:=l.flatMap fun s=>(chB fs s).map fun t=>t.map (·.1)
theorem ZEP {l:Cx} {f:List Vx} (hf:f∈ZBR (ZA2 l) l):∃ s∈l,∃ bl∈ZGb (2 ^ s.length-1),f=ZDX (ZA2 l) s bl:=by
 obtain ⟨s,hs,hf⟩:=List.mem_flatMap.1 hf
 obtain ⟨bl,hbl,rfl⟩:=List.mem_map.1 hf
 exact ⟨s,hs,bl,hbl,rfl⟩
theorem ZER {fs:Cx} {x:List Vx} (h:x∈fs) (c:Int):ZGr fs (c,ZAN 0 fs x)=x:=by
 obtain ⟨j,h1,h2,h3⟩:=ZBX _ 0 _ h
 unfold ZGr
 simp only
 rw [h2,Nat.zero_add,Int.toNat_natCast,List.getD_eq_getElem?_getD,List.getElem?_eq_getElem h1,Option.getD_some,h3]
theorem ZPi {car:Vx->List Vx}:∀ (F:List (List (Vx × List Vx))) (A:Cx × List (Vx × List Vx)),(∀ t∈F,∀ p∈t,car p.1=p.2) ->
  ZVW A F=((F.map fun t=>t.map (·.1)).foldl ZFy A.1,(F.map fun t=>t.map (·.1)).flatten.foldl (fun d u=>ZPV d u (car u)) A.2)
 | [],A,_=>rfl
 | t::F,A,h=>by
  have e:ZVW A (t::F)=ZVW (ZRy A t) F:=rfl
  have e2:putP A.2 t=(t.map (·.1)).foldl (fun d u=>ZPV d u (car u)) A.2:=by
   unfold putP
   rw [List.foldl_map]
   exact ZDF t _ fun d p hp=>by rw [h t (by simp) p hp]
  rw [e,ZPi F (ZRy A t) fun u hu=>h u (by simp [hu])]
  unfold ZRy
  rw [e2,List.map_cons,List.foldl_cons,List.flatten_cons,List.foldl_append]
theorem ZNy {fs:Cx} {car:Vx->List Vx}:∀ (l:Cx) (A:Cx × List (Vx × List Vx)),(∀ s∈l,∀ t∈chB fs s,∀ p∈t,car p.1=p.2) ->
  l.foldl (fun A s=>ZVW A (chB fs s)) A=((ZUy fs l).foldl ZFy A.1,(ZUy fs l).flatten.foldl (fun d u=>ZPV d u (car u)) A.2)
 | [],A,_=>rfl
 | s::l,A,h=>by
  rw [List.foldl_cons,ZNy l _ fun t ht=>h t (by simp [ht]),ZPi _ _ (h s (by simp))]
  unfold ZUy
  rw [List.flatMap_cons,List.foldl_append,List.flatten_append,List.foldl_append]
section
variable {l:Cx} (hg:∀ s∈l,Z3 s=0) (h5:∀ s∈l,s.length≤5)
include hg h5
theorem ZDZ {s:List Vx} (hs:s∈l) {bl:List Nat} (hb:bl∈ZGb (2 ^ s.length-1)) {k:Nat} (hk:k<s.length):atB s (orB bl (k+1))∈ZFW l:=by
 have h1:=(ZP.1 (hg s hs)).1
 have h2:=(ZFH (by omega) (h5 s hs) hb).2.2 k hk
 exact ZBH.2 ⟨s,hs,at_face h2,ZBG _ _⟩
theorem ZNx {s:List Vx} (hs:s∈l):(ZGb (2 ^ s.length-1)).map (ZDX (ZA2 l) s)=(chB (ZAL l) s).map fun t=>t.map (·.1):=by
 have h1:=(ZP.1 (hg s hs)).1
 unfold chB
 rw [ZSR (hg s hs) (h5 s hs),List.map_map,List.map_map]
 refine List.map_congr_left fun bl hb=>?_
 obtain ⟨o1,o2,o3⟩:=ZFH (by omega) (h5 s hs) hb
 simp only [Function.comp]
 apply List.ext_getElem
 ·rw [ZEQ,List.length_map,ZJz,List.length_map,List.length_range,o1]
 ·intro k q1 q2
  have hk:k<s.length:=by rw [ZEQ,o1] at q1;exact q1
  rw [ZCr,List.getElem_map,ZJy _ (by simpa using hk)]
  simp only [List.getElem_map,List.getElem_range]
  unfold ZHl
  rw [ZFv hg (ZDZ hg h5 hs hb hk)]
theorem ZNv:ZBR (ZA2 l) l=ZUy (ZAL l) l:=by
 unfold ZBR ZUy
 exact ZGQ fun s hs=>ZNx hg h5 hs
theorem ZCI {s:List Vx} (hs:s∈l) {bl:List Nat} (hb:bl∈ZGb (2 ^ s.length-1)):(ZDX (ZA2 l) s bl).length=s.length:=by
 have h1:=(ZP.1 (hg s hs)).1
 rw [ZEQ,(ZFH (by omega) (h5 s hs) hb).1]
theorem ZHm {s:List Vx} (hs:s∈l) {bl:List Nat} (hb:bl∈ZGb (2 ^ s.length-1)) {k:Nat} (hk:k<s.length):ZHl (ZA2 l) s bl k=((k:Int),ZAN 0 (ZAL l) (atB s (orB bl (k+1)))):=by
 unfold ZHl
 rw [ZFv hg (ZDZ hg h5 hs hb hk)]
theorem ZLY {s:List Vx} (hs:s∈l) {bl:List Nat} (hb:bl∈ZGb (2 ^ s.length-1)) {v:Vx} (hv:v∈ZDX (ZA2 l) s bl):∃ k,k<s.length/\v=((k:Int),ZAN 0 (ZAL l) (atB s (orB bl (k+1)))):=by
 obtain ⟨k,hk,rfl⟩:=List.mem_iff_getElem.1 hv
 have hk':k<s.length:=by rw [ZCI hg h5 hs hb] at hk;exact hk
 exact ⟨k,hk',by rw [ZCr,ZHm hg h5 hs hb hk']⟩
theorem ZJC (hG:GoodX l) {f:List Vx} (hf:f∈ZBR (ZA2 l) l):ZAY (ZBR (ZA2 l) l) f=false:=by
 have:¬ ZAY (ZBR (ZA2 l) l) f=true:=fun q=>by
  obtain ⟨k,hk,hlt,hin⟩:=ZAZ.1 q
  obtain ⟨s,hs,bl,hbl,ef⟩:=ZEP hf
  obtain ⟨s',hs',bl',hbl',ek⟩:=ZEP hk
  have h1:=(ZP.1 (hg s hs)).1
  obtain ⟨o1,o2,o3⟩:=ZFH (by omega) (h5 s hs) hbl
  have hfl:f.length=s.length:=by rw [ef,ZCI hg h5 hs hbl]
  have hkl:k.length=s'.length:=by rw [ek,ZCI hg h5 hs' hbl']
  have hat:atB s (2 ^ s.length-1)=s:=(ZBG s _).eq_of_length (Classical.byContradiction fun hne=>by
   have hlt:=(ZBG s (2 ^ s.length-1)).length_le
   exact (ZJB (ZE4 (ZP.1 (hg s hs)).2.2.2) (by have:=Nat.two_pow_pos s.length;omega)).1 (by omega) rfl)
  have hv:(((s.length-1:Nat):Int),ZAN 0 (ZAL l) s)∈f:=by
   rw [ef]
   have hi:s.length-1<(ZDX (ZA2 l) s bl).length:=by rw [ZCI hg h5 hs hbl];omega
   have:=List.getElem_mem hi
   rw [ZCr,ZHm hg h5 hs hbl (by omega),show s.length-1+1=s.length by omega,o2,hat] at this
   exact this
  have hvk:=of_decide_eq_true (List.all_eq_true.1 hin _ hv)
  rw [ek] at hvk
  obtain ⟨j,hj,e⟩:=ZLY hg h5 hs' hbl' hvk
  have en:ZAN 0 (ZAL l) s=ZAN 0 (ZAL l) (atB s' (orB bl' (j+1))):=congrArg Prod.snd e
  have hsk:s∈ZAL l:=ZAs.2 (ZBH.2 ⟨s,hs,fun q=>by rw [q] at h1;exact h1 rfl,List.Sublist.refl _⟩)
  have hsk':atB s' (orB bl' (j+1))∈ZAL l:=ZAs.2 (ZDZ hg h5 hs' hbl' hj)
  have hes:s=atB s' (orB bl' (j+1)):=by rw [<- ZER hsk 0,en,ZER hsk' 0]
  have hsub:s.Sublist s':=by rw [hes];exact ZBG _ _
  have hcov:ZAY l s=true:=ZAZ.2 ⟨s',hs',by omega,List.all_eq_true.2 fun x hx=>decide_eq_true (hsub.subset hx)⟩
  rw [hG.2.2.2 s hs] at hcov
  cases hcov
 simpa using this
theorem ZLW (hl:l.length≤4096) {f:List Vx} (hf:f∈ZBR (ZA2 l) l):Z3 f=0:=by
 obtain ⟨s,hs,bl,hbl,e⟩:=ZEP hf
 have h1:=(ZP.1 (hg s hs)).1
 have hs5:=h5 s hs
 have hlen:f.length=s.length:=by rw [e,ZCI hg h5 hs hbl]
 refine ZP.2 ⟨by omega,by omega,fun v hv=>?_,ZHh ?_⟩
 ·rw [e] at hv
  obtain ⟨k,hk,rfl⟩:=ZLY hg h5 hs hbl hv
  obtain ⟨j,j1,j2,_⟩:=ZBX _ 0 _ (ZAs.2 (ZDZ hg h5 hs hbl hk))
  have hfl:=ZFp h5
  unfold ZEy
  simp only [Bool.and_eq_true,decide_eq_true_eq]
  rw [j2]
  exact ⟨⟨⟨by omega,by omega⟩,by omega⟩,by omega⟩
 ·rw [e]
  refine List.pairwise_iff_getElem.2 fun i j hi hj hij=>?_
  rw [ZCr,ZCr]
  unfold ZHl
  simp only
  omega
theorem ZSJ (hG:GoodX l):ZSI (ZAL l) l=(ZCv (ZBR (ZA2 l) l),(ZCH [] (ZBR (ZA2 l) l).flatten).map fun u=>(u,ZGr (ZAL l) u)):=by
 unfold ZSI
 rw [ZNy (car:=ZGr (ZAL l)) l _ fun s hs t ht p hp=>?_,<- ZNv hg h5]
 ·have h1:(ZBR (ZA2 l) l).filter (ZPt (ZBR (ZA2 l) l))=ZBR (ZA2 l) l:=List.filter_eq_self.2 fun f hf=>by
   unfold ZPt
   rw [ZJC hg h5 hG hf]
   obtain ⟨s,hs,bl,hb,e⟩:=ZEP hf
   have:=(ZP.1 (hg s hs)).1
   have hl:f.length=s.length:=by rw [e,ZCI hg h5 hs hb]
   rw [decide_eq_true (by omega)];rfl
  have h2:=allS (ZGr (ZAL l)) (ZBR (ZA2 l) l).flatten []
  rw [List.map_nil] at h2
  unfold ZCv
  rw [h1,h2]
 ·unfold chB at ht
  rw [ZSR (hg s hs) (h5 s hs),List.map_map] at ht
  obtain ⟨bl,hb,rfl⟩:=List.mem_map.1 ht
  obtain ⟨k,hk,rfl⟩:=List.mem_iff_getElem.1 hp
  simp only [Function.comp] at hk ⊢
  have hk':k<s.length:=by rw [ZJz] at hk;simpa using hk
  rw [ZJy hk (by simpa using hk')]
  simp only [List.getElem_map,List.getElem_range]
  exact ZER (ZAs.2 (ZDZ hg h5 hs hb hk')) _
end
theorem ZLX {M:ZDu} {l:Cx} (hc:∀ s∈l,Z3 s=0) (h5:∀ s∈l,s.length≤5):(ZBR M l).length≤541*l.length/\(ZBR M l).flatten.length≤2705*l.length:=by
 induction l with
 | nil=>simp [ZBR]
 | cons s l ih =>
  obtain ⟨i1,i2⟩:=ih (fun t ht=>hc t (by simp [ht])) fun t ht=>h5 t (by simp [ht])
  have hs5:=h5 s (by simp)
  have h1:=(ZP.1 (hc s (by simp))).1
  have h2:=ZFI s.length hs5
  have h3:(ZGb (2 ^ s.length-1)).length≤(ZCD (2 ^ s.length-1)).length:=List.length_filter_le _ _
  have h4:∀ L:List (List Nat),(∀ bl∈L,bl.length≤5)->(L.map (ZDX M s)).flatten.length≤5*L.length:=by
   intro L
   induction L with
   | nil=>intro _;simp
   | cons bl L ih =>
    intro h
    have:=ih fun b hb=>h b (by simp [hb])
    have:=h bl (by simp)
    rw [List.map_cons,List.flatten_cons,List.length_append,ZEQ,List.length_cons]
    omega
  have h6:=h4 (ZGb (2 ^ s.length-1)) fun bl hb=>by rw [(ZFH (by omega) hs5 hb).1];exact hs5
  have e:ZBR M (s::l)=(ZGb (2 ^ s.length-1)).map (ZDX M s)++ZBR M l:=by unfold ZBR;rw [List.flatMap_cons]
  rw [e,List.length_append,List.length_map,List.flatten_append,List.length_append,List.length_cons]
  omega
open Go.RowKit in
theorem ZGt (l:Cx) (hl:l.length≤4) (h5:∀ s∈l,s.length≤5):Fn Tryz.prog 8 [dS CpxL l] (dT [dS ZG6 (ZP7 l).1,dI (ZP7 l).2]):=by
 by_cases h0:ZAr l=0
 ·have hG:=Z4.1 h0
  have hg:=hG.2.2.1
  have hsum:=ZR4 h5
  obtain ⟨hb1,hb2⟩:=ZLX (M:=ZA2 l) hg h5
  have hfl:=ZFp h5
  have hOf:ofP (ZBR (ZA2 l) l)=(ZCv (ZBR (ZA2 l) l),0):=by
   unfold ofP
   rw [if_neg (by omega),if_neg (fun q=>q (ZH0 fun f hf=>ZLW hg h5 hG.1 hf))]
  have hR:ZP7 l=((ZCv (ZBR (ZA2 l) l),ZCH [] (ZBR (ZA2 l) l).flatten,(ZCH [] (ZBR (ZA2 l) l).flatten).map (ZGr (ZAL l))),0):=by
   unfold ZP7
   rw [if_neg (by omega),ZSJ hg h5 hG]
   rw [List.map_map,List.map_map]
   congr 1
   congr 1
   congr 1
   exact List.map_id' _
  rw [hR]
  refine ZNK (ZN1 l _ (ZGr (ZAL l)) hG.1 h0 hg h5 (by omega) (by omega) (by omega) (fun s hs bl hb k hk=>?_) (fun v=>?_) hOf False.elim) fun d hp2 ⟨q1,q2⟩=>ZNG q1
  ·have h1:=(ZP.1 (hg s hs)).1
   have hk':k<s.length:=by rw [(ZFH (by omega) (h5 s hs) hb).1] at hk;exact hk
   have hf:=ZAs.2 (ZDZ hg h5 hs hb hk')
   have hs5:=h5 s hs
   rw [ZHm hg h5 hs hb hk']
   obtain ⟨j,j1,j2,j3⟩:=ZBX _ 0 _ hf
   refine ⟨⟨?_,?_⟩,ZER hf _⟩
   ·show ZKp _
    unfold ZKp
    simp only
    omega
   ·show ZKp _
    unfold ZKp
    simp only
    rw [j2]
    omega
  ·unfold ZGr
   rw [List.getD_eq_getElem?_getD]
   cases h:(ZAL l)[v.2.toNat]? with
   | none=>simp
   | some x =>
    obtain ⟨s,hs,_,hsub⟩:=ZBH.1 (ZAs.1 (List.mem_of_getElem? h))
    have:=hsub.length_le
    have:=h5 s hs
    simp only [Option.getD_some]
    omega
 ·rw [show ZP7 l=(([],[],[]),ZAr l) from if_pos h0]
  exact ZN0 l h0
end
end Go.Proofs.YtekiljakcngcoaaGreatDoor
